/- ApplyPatch; the laws' comparisons of statutes and patches. -/
import Derived.Test.YtcoladhppbknnaaApl3
import Derived.Test.YtcoladhppbknnaaApl4
import Derived.Test.YtcoladhppbknnaaB10
namespace Go.Proofs.Ytcoladhppbknnaa
set_option linter.unusedVariables false
set_option linter.unusedSimpArgs false
set_option maxRecDepth 100000
open Go.RowKit Go.Deep
/-- Articles that the call made. -/
def ArsO (w : World) (base : Nat) (A : Option Addr) (n c : Nat) (es : List Ar) : Prop := OwnR 70 2 w base A n c (es.map Ar.vals)
theorem ArsO.len {w : World} {base n c : Nat} {A : Option Addr} {es : List Ar} (h : ArsO w base A n c es) : es.length = n := by have := h.2.1; simpa using this
theorem ArsO.ars' {w : World} {base n c : Nat} {A : Option Addr} {es : List Ar} (h : ArsO w base A n c es) (ok : SOk es) : Ars w A n c es := OwnR.ars h ok.ok
theorem apply_ok (A : Option Addr) (n c : Nat) (s : List Ar) (B : Option Addr) (m d : Nat) (p : List Ed) (w : World) (h : Ars w A n c s) (k : Eds w B m d p) (hs : SOk s) (hsl : s.length ≤ 8) (hp : POk p) (hpl : p.length ≤ 16) (hf : Fit s p) (hl : (apps s p).length ≤ 8) :
    Calls Try.prog 24 #[.slice A n c, .slice B m d] w fun e w' => ∃ O L oc, e = .returned (.tuple #[.slice O L oc, .bool true]) ∧ ArsO w' w.heap.size O L oc (apps s p) ∧ Below w.heap.size w w' := by
  have HA := Lib.hid h
  have HK := Lib.hid k
  have VS := Lib.hid (ValidStatute_any A n c s w h)
  rw [staB_of hs hsl] at VS
  have HS := Lib.hid hs
  have HP := Lib.hid hp
  have HF := Lib.hid hf
  have HL := Lib.hid hl
  clear h k hs hf hl
  go_enter Try.func24, Try.ntmps24
  go_wp2_with fail
  refine VS.out.mono ?_
  rintro e w1 ⟨rfl, b1⟩
  have B1 := Lib.hid b1
  have VT := Lib.hid (ValidPatch_any B m d p w1 (HK.out.below b1))
  rw [patB_of hp hpl] at VT
  clear b1 VS hp
  go_wp2_with fail
  refine VT.out.mono ?_
  rintro e w2 ⟨rfl, b2⟩
  have B2 := Lib.hid (bel_trans B1.out b2)
  clear b2 VT B1
  go_wp2_with fail
  refine (applied_ok A n c s B m d p w2 (HA.out.below B2.out) (HK.out.below B2.out) HS.out hsl HP.out hpl).mono ?_
  rintro e w3 ⟨hr, b3⟩
  rcases hr with ⟨_, g, L, oc, rfl, ho⟩ | ⟨hn, _⟩
  · have hL : (apps s p).length = L := by have := ho.2.1; simpa using this
    have dl : decide ((L : Int) ≤ 8) = true := decide_eq_true (by have := HL.out; omega)
    have B3 := Lib.hid (bel_trans B2.out b3)
    have O3 := Lib.hid (ho.mono B2.out.size)
    rw [dl]
    clear ho b3 hL dl
    go_wp2_with fail
    go_ret2
    exact ⟨_, L, oc, rfl, O3.out, B3.out⟩
  · exact absurd HF.out hn
theorem b10Articles_ok (A : Option Addr) (n c : Nat) (rs : List Ar) (B : Option Addr) (m d : Nat) (ts : List Ar) (w : World) (h : Ars w A n c rs) (k : Ars w B m d ts) :
    Calls Try.prog 27 #[.slice A n c, .slice B m d] w fun e w' => ∃ r : Bool, e = .returned (.bool r) ∧ (r = true ↔ rs = ts) ∧ Below w.heap.size w w' := by
  have hn := h.short
  have hm := k.short
  obtain rfl : rs.length = n := h.len
  obtain rfl : ts.length = m := k.len
  have HA := Lib.hid h
  have HK := Lib.hid k
  clear h k
  by_cases hl : rs.length = ts.length
  · have HL := Lib.hid hl
    have e0 : decide ((rs.length : Int) = (ts.length : Int)) = true := decide_eq_true (by omega)
    have e0' : ((rs.length : Int) != (ts.length : Int)) = false := by simp; omega
    clear hl
    go_enter Try.func27, Try.ntmps27
    go_wp2_with fail
    go_loopw [5] (fun i wr => ∃ k : Nat, k ≤ rs.length ∧ i = .int .i64 k ∧ rs.take k = ts.take k ∧ Below w.heap.size w wr) (fun i _ => rs.length - (intOf i).toNat)
    case atStart => exact ⟨0, Nat.zero_le _, rfl, rfl, Below.refl _ _⟩
    case round =>
      obtain ⟨k, hk, rfl, ht, hb⟩ := hrel
      have HT := Lib.hid ht
      have HB := Lib.hid hb
      clear ht hb
      by_cases hlt : k < rs.length
      · have d0 := decide_eq_true (show (k : Int) < (rs.length : Int) by omega)
        obtain ⟨b, off, x, rfl, hbw, hx, _, c0, c1⟩ := (HA.out.below HB.out).at hlt
        have hlt2 : k < ts.length := by have := HL.out; omega
        obtain ⟨b', off', y, rfl, hbw', hy, _, c0', c1'⟩ := (HK.out.below HB.out).at hlt2
        have k0 : (0 : Int) ≤ (k : Int) := by omega
        have k1 : (k : Int) < (rs.length : Int) := by omega
        have k2 : (k : Int) < (ts.length : Int) := by omega
        by_cases hxy : x = y
        · subst hxy
          have NX := Lib.hid (show rs.take (k + 1) = ts.take (k + 1) by rw [take_snoc' hx.out, take_snoc' hy.out, HT.out])
          go_wp2_with fail
          go_quiet (fail)
          go_wp2_with fail
          go_roundw
          case rel => exact ⟨k + 1, by omega, by go_num, NX.out, below_drewN HB.out _⟩
          case measure => simp [intOf]; omega
        · have NE := Lib.hid (show rs ≠ ts from fun e => by
            subst e
            have := hx.out.symm.trans hy.out
            injection this with this
            exact hxy this)
          have hd : ¬ (x.id = y.id ∧ x.text.toList = y.text.toList) := by
            rintro ⟨e1, e2⟩
            refine hxy ?_
            have e3 := bytes_ext.1 e2
            cases x; cases y
            simp_all
          clear hxy
          by_cases hid : x.id = y.id
          · have ht2 : ¬ x.text.toList = y.text.toList := fun e => hd ⟨hid, e⟩
            have ht3 : (x.text.toList == y.text.toList) = false := by rw [beq_eq_false_iff_ne]; exact ht2
            have hi3 : (x.id == y.id) = true := by rw [beq_iff_eq]; exact hid
            clear hd hid ht2
            go_wp2_with fail
            go_quiet (fail)
            go_wp2_with fail
            go_ret
            exact ⟨false, rfl, ⟨fun e => (by cases e), fun e => absurd e NE.out⟩, below_drewN HB.out _⟩
          · have hi3 : (x.id == y.id) = false := by rw [beq_eq_false_iff_ne]; exact hid
            clear hd hid
            go_wp2_with fail
            go_quiet (fail)
            go_wp2_with fail
            go_ret
            exact ⟨false, rfl, ⟨fun e => (by cases e), fun e => absurd e NE.out⟩, below_drewN HB.out _⟩
      · obtain rfl : rs.length = k := by omega
        have d0 := decide_eq_false (show ¬ (rs.length : Int) < (rs.length : Int) by omega)
        have EQ := Lib.hid (show rs = ts by
          have := HT.out
          rw [List.take_of_length_le (Nat.le_refl _), List.take_of_length_le (by have := HL.out; omega)] at this
          exact this)
        go_wp2_with fail
        go_ret
        exact ⟨true, rfl, ⟨fun _ => EQ.out, fun _ => rfl⟩, HB.out⟩
  · have NE := Lib.hid (show rs ≠ ts from fun e => hl (by rw [e]))
    have e0 : decide ((rs.length : Int) = (ts.length : Int)) = false := decide_eq_false (by omega)
    have e0' : ((rs.length : Int) != (ts.length : Int)) = true := by simp; omega
    clear hl
    go_enter Try.func27, Try.ntmps27
    go_wp2_with fail
    go_ret
    exact ⟨false, rfl, ⟨fun e => (by cases e), fun e => absurd e NE.out⟩, Below.refl _ _⟩
theorem b10Edits_eq (A : Option Addr) (n c : Nat) (B : Option Addr) (d : Nat) (rs : List Ed) (w : World) (h : Eds w A n c rs) (k : Eds w B n d rs) :
    Calls Try.prog 28 #[.slice A n c, .slice B n d] w fun e w' => e = .returned (.bool true) ∧ Below w.heap.size w w' := by
  have hn := h.short
  obtain rfl : rs.length = n := h.len
  have HA := Lib.hid h
  have HK := Lib.hid k
  clear h k
  go_enter Try.func28, Try.ntmps28
  go_wp2_with fail
  go_loopw [5] (fun i wr => ∃ k : Nat, k ≤ rs.length ∧ i = .int .i64 k ∧ Below w.heap.size w wr) (fun i _ => rs.length - (intOf i).toNat)
  case atStart => exact ⟨0, Nat.zero_le _, rfl, Below.refl _ _⟩
  case round =>
    obtain ⟨k, hk, rfl, hb⟩ := hrel
    have HB := Lib.hid hb
    clear hb
    by_cases hlt : k < rs.length
    · have d0 := decide_eq_true (show (k : Int) < (rs.length : Int) by omega)
      obtain ⟨b, off, x, rfl, hbw, hx, _, c0, c1, c2, c3⟩ := (HA.out.below HB.out).at hlt
      obtain ⟨b', off', y, rfl, hbw', hy, _, c0', c1', c2', c3'⟩ := (HK.out.below HB.out).at hlt
      obtain rfl : x = y := by have := hx.out.symm.trans hy.out; injection this
      have k0 : (0 : Int) ≤ (k : Int) := by omega
      have k1 : (k : Int) < (rs.length : Int) := by omega
      go_wp2_with fail
      go_quiet (fail)
      go_wp2_with fail
      go_roundw
      case rel => exact ⟨k + 1, by omega, by go_num, below_drewN HB.out _⟩
      case measure => simp [intOf]; omega
    · obtain rfl : rs.length = k := by omega
      have d0 := decide_eq_false (show ¬ (rs.length : Int) < (rs.length : Int) by omega)
      go_wp2_with fail
      go_ret
      exact ⟨rfl, HB.out⟩
end Go.Proofs.Ytcoladhppbknnaa
