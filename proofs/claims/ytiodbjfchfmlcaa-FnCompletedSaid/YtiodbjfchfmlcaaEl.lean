/- Elections: valid ones; the supporters of a project. -/
import Derived.Test.YtiodbjfchfmlcaaFrL
import Derived.Test.YtiodbjfchfmlcaaSetA
import Derived.Test.YtiodbjfchfmlcaaRws
import Derived.Test.YtiodbjfchfmlcaaRec
import Derived.Test.YtiodbjfchfmlcaaShelf
namespace Go.Proofs.Ytiodbjfchfmlcaa
set_option linter.unusedVariables false
set_option linter.unusedSimpArgs false
set_option maxRecDepth 100000
open Go.RowKit Go.Deep
theorem has_any (A : Option Addr) (n c : Nat) (zs : List Int) (x : Int) (w : World) (h : Ints .i64 w A n c zs) :
    Calls Try.prog 28 #[.slice A n c, .int .i64 x] w fun e w' => e = .returned (.bool (zs.contains x)) ∧ w = w' := by
  have hl := h.1
  rcases Nat.eq_zero_or_pos n with h0 | h0
  · subst h0
    have : zs = [] := List.eq_nil_of_length_eq_zero hl
    rw [this]
    refine (Try.slices_Contains_int_empty A c x w).mono ?_
    rintro e w' ⟨rfl, rfl⟩
    exact ⟨rfl, rfl⟩
  · obtain ⟨b, off, rfl, hb, hc⟩ := h.2.2.2.2 h0
    refine (Try.slices_Contains_int b off n c zs x w (by omega) h.short ?_).mono ?_
    · intro j hj
      have := hc j _ (List.getElem?_eq_getElem hj)
      rw [this, List.getD_eq_getElem?_getD, List.getElem?_eq_getElem hj]
      rfl
    · rintro e w' ⟨rfl, rfl⟩
      rw [List.take_of_length_le (by omega)]
      exact ⟨rfl, rfl⟩
structure El where
  mon : Int
  cs : List Int
  ap : List (List Int)
/-- A valid election. -/
structure EOk (e : El) : Prop where
  mon : 0 ≤ e.mon ∧ e.mon ≤ 60
  cs1 : 1 ≤ e.cs.length ∧ e.cs.length ≤ 6
  ap1 : 1 ≤ e.ap.length ∧ e.ap.length ≤ 6
  cost : ∀ c ∈ e.cs, 1 ≤ c ∧ c ≤ 60
  set : ∀ r ∈ e.ap, SetP r e.cs.length
/-- The lists of an election in memory. -/
structure ElW (w : World) (CA : Option Addr) (m cc : Nat) (AA : Option Addr) (n ac : Nat) (e : El) : Prop where
  c : Ints .i64 w CA m cc e.cs
  a : Rws w AA n ac e.ap
theorem ElW.below {w w' : World} {CA AA : Option Addr} {m cc n ac : Nat} {e : El} (h : ElW w CA m cc AA n ac e) (hb : Below w.heap.size w w') : ElW w' CA m cc AA n ac e := ⟨h.c.below hb, h.a.below hb⟩
theorem ElW.cl {w : World} {CA AA : Option Addr} {m cc n ac : Nat} {e : El} (h : ElW w CA m cc AA n ac e) : e.cs.length = m := h.c.1
theorem ElW.al {w : World} {CA AA : Option Addr} {m cc n ac : Nat} {e : El} (h : ElW w CA m cc AA n ac e) : e.ap.length = n := h.a.1
/-- The closure of ValidElection, at a valid row. -/
theorem vel1_ok (g : Nat) (A : Option Addr) (k c : Nat) (zs : List Int) (CA : Option Addr) (m cc : Nat) (w : World) (h : Ints .i64 w A k c zs) (hs : SetP zs m) (hm : m ≤ 6) (hg : w.cell? ⟨g, 1, none⟩ = some (.slice CA m cc)) :
    Calls Try.prog 48 #[.slice A k c, .pointer (some ⟨g, 0, none⟩)] w fun e w' => e = .returned (.bool false) ∧ w = w' := by
  have IS := Lib.hid (isSet_any A k c zs m w h (by omega) (by omega))
  have HS := Lib.hid hs
  go_enter Try.func48, Try.ntmps48
  go_wp2_with fail
  refine IS.out.mono ?_
  rintro e w1 ⟨b, rfl, hb, rfl⟩
  obtain rfl : b = true := hb.2 HS.out
  go_wp2_with fail
  go_ret
  exact ⟨rfl, rfl⟩
theorem velx_ok (g : Nat) (A : Option Addr) (n c : Nat) (zss : List (List Int)) (CA : Option Addr) (m cc : Nat) (w : World) (h : Rws w A n c zss) (hs : ∀ r ∈ zss, SetP r m) (hm : m ≤ 6) (hg : w.cell? ⟨g, 1, none⟩ = some (.slice CA m cc)) :
    Calls Try.prog 60 #[.slice A n c, .func (.func 48) #[] #[.pointer (some ⟨g, 0, none⟩)]] w fun e w' => e = .returned (.int .i64 (-1)) ∧ w = w' := by
  have hn := h.short
  have HS := Lib.hid hs
  have H := Lib.hid h
  clear h hs
  go_enter Try.func60, Try.ntmps60
  go_wp2_with fail
  go_loop [8] (fun i => ∃ k : Nat, k ≤ n ∧ i = .int .i64 k) (fun i => n - (intOf i).toNat)
  case atStart => exact ⟨0, Nat.zero_le _, rfl⟩
  case round =>
    obtain ⟨k, hk, rfl⟩ := hrel
    by_cases hlt : k < n
    · have d0 := decide_eq_true (show (k : Int) < (n : Int) by omega)
      have k0 : (0 : Int) ≤ (k : Int) := by omega
      have k1 : (k : Int) < (n : Int) := by omega
      obtain ⟨b, off, A', l, c', zs, rfl, hb, hc, hi, hz⟩ := H.out.at hlt
      have VC := Lib.hid (vel1_ok g A' l c' zs CA m cc w hi (HS.out zs (List.mem_of_getElem? hz.out)) hm hg)
      clear hi hz
      go_wp2_with fail
      refine VC.out.mono ?_
      rintro e w1 ⟨rfl, rfl⟩
      go_wp2_with fail
      go_round
      case rel => exact ⟨k + 1, by omega, by go_num⟩
      case measure => simp [intOf]; omega
    · obtain rfl : k = n := by omega
      go_wp2_with fail
      go_ret
      exact ⟨rfl, rfl⟩
theorem velc_ok (g : Nat) (A : Option Addr) (n c : Nat) (zss : List (List Int)) (CA : Option Addr) (m cc : Nat) (w : World) (h : Rws w A n c zss) (hs : ∀ r ∈ zss, SetP r m) (hm : m ≤ 6) (hg : w.cell? ⟨g, 1, none⟩ = some (.slice CA m cc)) :
    Calls Try.prog 47 #[.slice A n c, .func (.func 48) #[] #[.pointer (some ⟨g, 0, none⟩)]] w fun e w' => e = .returned (.bool false) ∧ w = w' := by
  have VX := Lib.hid (velx_ok g A n c zss CA m cc w h hs hm hg)
  clear h hs
  go_enter Try.func47, Try.ntmps47
  go_wp2_with fail
  refine VX.out.mono ?_
  rintro e w1 ⟨rfl, rfl⟩
  go_wp2_with fail
  go_ret
  exact ⟨rfl, rfl⟩
theorem validEl_ok (CA : Option Addr) (m cc : Nat) (AA : Option Addr) (n ac : Nat) (e : El) (w : World) (h : ElW w CA m cc AA n ac e) (ok : EOk e) :
    Calls Try.prog 24 #[.agg #[.int .i64 e.mon, .slice CA m cc, .slice AA n ac]] w fun r w' => r = .returned (.bool true) ∧ Below w.heap.size w w' := by
  have hm := h.cl
  have hn := h.al
  have h6 := ok.cs1
  have a6 := ok.ap1
  have b0 := bel_alloc w (.cells #[.int .i64 e.mon, .slice CA m cc, .slice AA n ac] 27)
  have C0 := (Cs.new w [.int .i64 e.mon, .slice CA m cc, .slice AA n ac] 27)
  have H := Lib.hid (h.below b0)
  have B0 := Lib.hid b0
  have y1 := C0.cell 1 rfl
  have y2 := C0.cell 2 rfl
  have VC := Lib.hid (velc_ok w.heap.size AA n ac e.ap CA m cc _ (h.below b0).a (fun r hr => by rw [← hm]; exact ok.set r hr) (by omega) y1)
  have i1 := Lib.hid (show inR e.mon 0 60 = true from inR_true.2 ok.mon)
  have i2 := Lib.hid (show inR (m : Int) 1 6 = true from inR_true.2 (by omega))
  have i3 := Lib.hid (show inR (n : Int) 1 6 = true from inR_true.2 (by omega))
  have OC := Lib.hid ok.cost
  simp only [List.toArray] at VC H y1 y2
  clear h ok b0 C0 y1 y2
  go_enter Try.func24, Try.ntmps24
  go_wp2_with fail
  refine (within_val i1.out _).mono ?_
  rintro r w1 ⟨rfl, rfl⟩
  go_wp2_with fail
  refine (within_val i2.out _).mono ?_
  rintro r w1 ⟨rfl, rfl⟩
  go_wp2_with fail
  refine (within_val i3.out _).mono ?_
  rintro r w1 ⟨rfl, rfl⟩
  go_wp2_with fail
  go_loop [26] (fun i => ∃ k : Nat, k ≤ m ∧ i = .int .i64 k) (fun i => m - (intOf i).toNat)
  case atStart => exact ⟨0, Nat.zero_le _, rfl⟩
  case round =>
    obtain ⟨k, hk, rfl⟩ := hrel
    by_cases hlt : k < m
    · have d0 := decide_eq_true (show (k : Int) < (m : Int) by omega)
      have k0 : (0 : Int) ≤ (k : Int) := by omega
      have k1 : (k : Int) < (m : Int) := by omega
      obtain ⟨b, off, z, rfl, hb, hc, z1, z2, hz⟩ := H.out.c.at hlt
      have i4 := Lib.hid (show inR z 1 60 = true from inR_true.2 (OC.out z (List.mem_of_getElem? hz.out)))
      clear hz
      go_wp2_with fail
      refine (within_val i4.out _).mono ?_
      rintro r w1 ⟨rfl, rfl⟩
      go_wp2_with fail
      go_round
      case rel => exact ⟨k + 1, by omega, by go_num⟩
      case measure => simp [intOf]; omega
    · obtain rfl : k = m := by omega
      go_wp2_with fail
      refine VC.out.mono ?_
      rintro r w1 ⟨rfl, rfl⟩
      go_wp2_with fail
      go_ret
      exact ⟨rfl, B0.out⟩
end Go.Proofs.Ytiodbjfchfmlcaa
