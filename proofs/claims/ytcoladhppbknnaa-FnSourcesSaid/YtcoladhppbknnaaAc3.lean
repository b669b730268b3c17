/- The statute of a day, walked. -/
import Derived.Test.YtcoladhppbknnaaAcM
namespace Go.Proofs.Ytcoladhppbknnaa
set_option linter.unusedVariables false
set_option linter.unusedSimpArgs false
set_option maxRecDepth 100000
open Go.RowKit Go.Deep
theorem l07Both_any (A : Option Addr) (n c : Nat) (s : List Ar) (B : Option Addr) (m d : Nat) (es : List Ac) (w : World) (h : Ars w A n c s) (k : Acs w B m d es) :
    Calls Try.prog 82 #[.slice A n c, .slice B m d] w fun e w' => e = .returned (.bool (staB s && acB es)) ∧ Below w.heap.size w w' := by
  have VS := Lib.hid (l07Statute_any A n c s w h)
  have K := Lib.hid k
  clear h k
  go_enter Try.func82, Try.ntmps82
  go_wp2_with fail
  refine VS.out.mono ?_
  rintro e w1 ⟨rfl, b1⟩
  have VA := Lib.hid (l07Acts_any B m d es w1 (K.out.below b1))
  have B1 := Lib.hid b1
  clear VS b1
  cases hs : staB s
  · go_wp2_with fail
    go_ret
    exact ⟨by simp [hs], B1.out⟩
  · go_wp2_with fail
    refine VA.out.mono ?_
    rintro e w2 ⟨rfl, b2⟩
    have B2 := Lib.hid (bel_trans B1.out b2)
    clear b2
    go_wp2_with fail
    go_ret
    exact ⟨by simp [hs], B2.out⟩
theorem ints_get {w : World} {A : Option Addr} {n c j : Nat} {zs : List Int} {z : Int} (h : Ints .i64 w A n c zs) (hz : zs[j]? = some z) : ∃ b off, A = some ⟨b, off, none⟩ ∧ w.cell? ⟨b, off + j, none⟩ = some (.int .i64 z) := by
  have hj : j < n := by
    have := (List.getElem?_eq_some_iff.1 hz).1
    have := h.1
    omega
  obtain ⟨b, off, z', e, _, hc, _, _, hz'⟩ := h.at hj
  have := hz'.out
  rw [hz] at this
  injection this with this
  subst this
  exact ⟨b, off, e, hc⟩
def TxR (es : List Ac) (base : List Ar) (l : List Nat) (w : World) (e : Ending) (w' : World) : Prop :=
  ((∃ s O L oc, txt es base l = some s ∧ e = .returned (.tuple #[.slice O L oc, .bool true]) ∧ ArsO w' w.heap.size O L oc s) ∨ (txt es base l = none ∧ e = .returned (.tuple #[.slice none 0 0, .bool false]))) ∧ Below w.heap.size w w'
set_option maxHeartbeats 2000000 in
theorem textOn_ok (A : Option Addr) (n c : Nat) (s : List Ar) (B : Option Addr) (m d : Nat) (es : List Ac) (day : Int) (w : World) (h : Ars w A n c s) (k : Acs w B m d es) (hs : SOk s) (hl : s.length ≤ 8) (hv : AcV es) :
    Calls Try.prog 85 #[.slice A n c, .slice B m d, .int .i64 day] w (TxR es s (frN es day m) w) := by
  obtain rfl : s.length = n := h.len
  obtain rfl : es.length = m := k.len
  have HA := Lib.hid h
  have HK := Lib.hid k
  have HS := Lib.hid hs
  have HV := Lib.hid hv
  have h8 := hv.len
  obtain ⟨i0, hi0, hz0, hz1, hz2⟩ := info_parts info_ar
  have b0 := bel_alloc w (.cells #[] 70)
  have O0 : OwnR 70 2 (w.alloc (.cells #[] 70)) w.heap.size (some ⟨w.heap.size, 0, none⟩) 0 0 [] := ownR_lits (rs := []) w (by simp) (by unfold maxLen; simp)
  obtain ⟨A1, c1, w1, hrun, r1, g1, nb⟩ := run_app_recsN (P := Try.prog) (w.alloc (.cells #[] 70)) 37 37 70 w.heap.size i0 _ 2 24 Try.underlying37 hi0 hz0 hz1 hz2 rfl (by omega) _ 0 0 [] O0 A s.length c (s.map Ar.vals) (h.below b0).1 ar2 ar1 (by unfold maxLen; omega) (by omega) (by simp)
  rw [Nat.zero_add] at hrun r1
  rw [List.nil_append] at r1
  have R1 := Lib.hid (show ArsO w1 w.heap.size A1 s.length c1 s from r1)
  have RUN := Lib.hid hrun
  have B1 := Lib.hid (b0.grown g1 b0.size (fun x hx => (O0.block x hx).1))
  clear h k hs hv b0 O0 hrun r1 g1 nb
  go_enter Try.func85, Try.ntmps85
  go_wp2_with (at_builtin; refine wpl_app rfl _ _ _ rfl rfl rfl RUN.out ?_)
  refine (inForce_any B es.length d es day _ (HK.out.below B1.out) (by omega)).mono ?_
  rintro e w2 ⟨F, L, fc, rfl, ho, b2⟩
  have HL := ho.len
  rw [znt_len] at HL
  have HL := Lib.hid HL
  have FI := Lib.hid ho
  have LL := frN_len es day es.length
  have MM := Lib.hid (fun i (hi : i ∈ frN es day es.length) => frN_mem hi)
  obtain ⟨l, hl'⟩ : ∃ x, frN es day es.length = x := ⟨_, rfl⟩
  rw [hl'] at HL FI LL MM
  have LE := Lib.hid hl'
  have R2 := Lib.hid (show ArsO w2 w.heap.size A1 s.length c1 s from OwnR.below R1.out b2)
  have B2 := Lib.hid (bel_trans B1.out b2)
  rw [HL.out] at LL
  clear ho b2 R1 B1 RUN hl'
  go_wp2_with fail
  go_loopw [8, 9, 19] (fun s8 t9 t wr => ∃ (k N oc : Nat) (O : Option Addr) (q : List Ar), k ≤ L ∧ s8 = .slice O N oc ∧ t9 = .bool true ∧ t = .int .i64 k ∧ txt es s (l.take k) = some q ∧ ArsO wr w.heap.size O N oc q ∧ Below w.heap.size w wr ∧ Below w2.heap.size w2 wr) (fun _ _ t _ => L - (intOf t).toNat)
  case atStart => exact ⟨0, s.length, c1, A1, s, Nat.zero_le _, rfl, rfl, rfl, txt_nil _ _, R2.out, B2.out, Below.refl _ _⟩
  case round =>
    obtain ⟨k, N, oc, O, q, hk, rfl, rfl, rfl, hq, ho, hb, hb2⟩ := hrel
    have HB := Lib.hid hb
    have HB2 := Lib.hid hb2
    have TX := txt_src HV.out HS.out hl hq
    have HO := Lib.hid (ho.ars' TX.1)
    have OW := Lib.hid ho
    have HQ := Lib.hid hq
    have QOK := Lib.hid TX.1
    have Q8 := TX.2.1
    clear ho hb hb2 R2 B2 TX hq
    by_cases hlt : k < L
    · have d0 := decide_eq_true (show (k : Int) < (L : Int) by omega)
      have k0 : (0 : Int) ≤ (k : Int) := by omega
      have k1' : (k : Int) < (L : Int) := by omega
      have hkl : k < l.length := by rw [HL.out]; omega
      obtain ⟨i, hi⟩ : ∃ i, l[k]? = some i := ⟨_, List.getElem?_eq_getElem hkl⟩
      have him : i < es.length := MM.out i (List.mem_of_getElem? hi)
      obtain ⟨bf, fo, rfl, cf⟩ := ints_get (FI.out.below HB2.out).ints (znt_at hi)
      obtain ⟨b, off, e, rfl, hbw, he, ok, y0, y1, y2⟩ := (HK.out.below HB.out).at him
      have i0' : (0 : Int) ≤ (i : Int) := by omega
      have i1' : (i : Int) < (es.length : Int) := by omega
      have GE := getD_ac he.out
      have PV := HV.out.getD i
      rw [GE] at PV
      have NX := Lib.hid (txt_snoc' hi HQ.out)
      rw [GE] at NX
      have AP := Lib.hid (applied_ok O N oc q e.A e.n e.c e.p wr HO.out ok.out.p QOK.out Q8 PV.1 PV.2)
      clear ok he GE PV hi hkl
      go_wp2_with fail
      refine AP.out.mono ?_
      rintro x w3 ⟨hr, b3⟩
      have B3 := Lib.hid (bel_trans HB.out b3)
      have B32 := Lib.hid (bel_trans HB2.out b3)
      clear AP
      rcases hr with ⟨hf, g, N2, oc2, rfl, ho⟩ | ⟨hn, rfl⟩
      · have hL : (apps q e.p).length = N2 := by have := ho.2.1; simpa using this
        by_cases hN : N2 ≤ 8
        · have dl : decide ((N2 : Int) ≤ 8) = true := decide_eq_true (by omega)
          have TY := Lib.hid (NX.out.trans (stepT_yes hf (by omega)))
          have O3 := Lib.hid (show ArsO w3 w.heap.size (some ⟨g, 0, none⟩) N2 oc2 (apps q e.p) from ho.mono HB.out.size)
          rw [dl]
          clear ho b3 hf hL dl NX
          go_wp2_with fail
          go_roundw
          case rel => exact ⟨k + 1, N2, oc2, _, _, by omega, rfl, rfl, by go_num, TY.out, O3.out, B3.out, B32.out⟩
          case measure => simp [intOf]; omega
        · have dl : decide ((N2 : Int) ≤ 8) = false := decide_eq_false (by omega)
          have TY := Lib.hid (txt_none (NX.out.trans (stepT_no (fun h => by have := h.2; omega))))
          rw [dl]
          clear ho b3 hf hL dl NX
          go_wp2_with fail
          exact bodyPost_ret (v := .tuple #[.slice none 0 0, .bool false]) (by simp [results, Try.results85, go_sem]) rfl ⟨.inr ⟨by rw [LE.out]; exact TY.out, rfl⟩, B3.out⟩
      · have TY := Lib.hid (txt_none (NX.out.trans (stepT_no (fun h => hn h.1))))
        clear b3 hn NX
        go_wp2_with fail
        exact bodyPost_ret (v := .tuple #[.slice none 0 0, .bool false]) (by simp [results, Try.results85, go_sem]) rfl ⟨.inr ⟨by rw [LE.out]; exact TY.out, rfl⟩, B3.out⟩
    · obtain rfl : L = k := by omega
      have TY := Lib.hid (show txt es s l = some q by have := HQ.out; rw [List.take_of_length_le (by rw [HL.out]; exact Nat.le_refl _)] at this; exact this)
      go_wp2_with fail
      exact bodyPost_ret (v := .tuple #[.slice O N oc, .bool true]) (by simp [results, Try.results85, go_sem]) rfl ⟨.inl ⟨q, O, N, oc, by rw [LE.out]; exact TY.out, rfl, OW.out⟩, HB.out⟩
theorem TextOn_ok (A : Option Addr) (n c : Nat) (s : List Ar) (B : Option Addr) (m d : Nat) (es : List Ac) (day : Int) (w : World) (h : Ars w A n c s) (k : Acs w B m d es) (hs : SOk s) (hl : s.length ≤ 8) (hv : acB es = true) (hd : inR day 0 999 = true) :
    Calls Try.prog 33 #[.slice A n c, .slice B m d, .int .i64 day] w (TxR es s (frN es day m) w) := by
  have VS := Lib.hid (ValidStatute_any A n c s w h)
  rw [staB_of hs hl] at VS
  have HA := Lib.hid h
  have HK := Lib.hid k
  have HV := Lib.hid hv
  have HS := Lib.hid hs
  have D := Lib.hid (fun W => isDate_any day W)
  rw [hd] at D
  clear h k hs hv hd
  go_enter Try.func33, Try.ntmps33
  go_wp2_with fail
  refine VS.out.mono ?_
  rintro e w1 ⟨rfl, b1⟩
  have VA := Lib.hid (ValidActs_any B m d es w1 (HK.out.below b1))
  rw [HV.out] at VA
  go_wp2_with fail
  refine VA.out.mono ?_
  rintro e w2 ⟨rfl, b2⟩
  have B2 := Lib.hid (bel_trans b1 b2)
  clear b1 b2 VA VS
  go_wp2_with fail
  refine (D.out _).mono ?_
  rintro e w3 ⟨rfl, rfl⟩
  go_wp2_with fail
  refine (textOn_ok A n c s B m d es day _ (HA.out.below B2.out) (HK.out.below B2.out) HS.out hl (acV_of HV.out)).mono ?_
  rintro e w3 ⟨hr, b3⟩
  have B3 := Lib.hid (bel_trans B2.out b3)
  clear b3
  rcases hr with ⟨q, O, L, oc, ht, rfl, ho⟩ | ⟨ht, rfl⟩
  · have HT := Lib.hid ht
    have HO := Lib.hid (show ArsO w3 w.heap.size O L oc q from OwnR.mono ho B2.out.size)
    clear ht ho
    go_wp2_with fail
    exact bodyPost_ret (v := .tuple #[.slice O L oc, .bool true]) (by simp [results, Try.results33, go_sem]) rfl ⟨.inl ⟨q, O, L, oc, HT.out, rfl, HO.out⟩, B3.out⟩
  · have HT := Lib.hid ht
    clear ht
    go_wp2_with fail
    exact bodyPost_ret (v := .tuple #[.slice none 0 0, .bool false]) (by simp [results, Try.results33, go_sem]) rfl ⟨.inr ⟨HT.out, rfl⟩, B3.out⟩
end Go.Proofs.Ytcoladhppbknnaa
