/- Contracts of ProveBit, and of the laws' helpers that mark and hold a proof. -/
import Derived.Test.YtnjnngnagdhaiaaProve3
import Derived.Test.YtnjnngnagdhaiaaProve5
namespace Go.Proofs.Ytnjnngnagdhaiaa
set_option linter.unusedVariables false
open Go.RowKit
def prMV (bit key : Int) (zs : List Int) : List Int := if prB bit key zs then prM bit key zs else []
def prCV (bit key : Int) (zs : List Int) : List Int := if prB bit key zs then prC bit key zs else []
def prAV (bit key : Int) (zs : List Int) : List Int := if prB bit key zs then prA bit key zs else []
theorem pr_no {bit key : Int} {zs : List Int} (h : prB bit key zs = false) : prMV bit key zs = [] ∧ prCV bit key zs = [] ∧ prAV bit key zs = [] := by simp [prMV, prCV, prAV, h]
theorem pr_yes {bit key : Int} {zs : List Int} (h : prB bit key zs = true) : prMV bit key zs = prM bit key zs ∧ prCV bit key zs = prC bit key zs ∧ prAV bit key zs = prA bit key zs := by simp [prMV, prCV, prAV, h]
theorem givesBP_bad {bit key : Int} {zs : List Int} {w w' : World} (h : prB bit key zs = false) (hb : Below w.heap.size w w') :
    GivesBP (prMV bit key zs) (prCV bit key zs) (prAV bit key zs) (prB bit key zs) w (.returned (.tuple #[.agg #[.slice none 0 0, .slice none 0 0, .slice none 0 0], .bool false])) w' := by
  obtain ⟨e1, e2, e3⟩ := pr_no h
  rw [e1, e2, e3, h]
  exact givesBP_no w w' hb
theorem putBP {w : World} {r base : Nat} {x y z : Value} (h : Cs w r [x, y, z]) {A : Option Addr} {n c : Nat} {la : List Int} {B : Option Addr} {m d : Nat} {lb : List Int} {C : Option Addr} {l f : Nat} {lc : List Int} (u v t : Value) (hr : r < base) (h1 : OwnI w base A n c la) (h2 : OwnI w base B m d lb) (h3 : OwnI w base C l f lc) :
    Cs (putR w r u v t) r [u, v, t] ∧ OwnI (putR w r u v t) base A n c la ∧ OwnI (putR w r u v t) base B m d lb ∧ OwnI (putR w r u v t) base C l f lc := by
  have far : ∀ {A : Option Addr} {n c : Nat} {la : List Int} {w : World}, OwnI w base A n c la → ∀ g, A = some ⟨g, 0, none⟩ → g ≠ r := by
    intro A n c la w hh g e1 e2
    subst e1
    have := (hh.block g rfl).1
    omega
  refine ⟨((h.set 0 u (by simp)).set 1 v (by simp)).set 2 t (by simp), ?_, ?_, ?_⟩
  · exact ((h1.setFar (far h1) 0 u).setFar (far h1) 1 v).setFar (far h1) 2 t
  · exact ((h2.setFar (far h2) 0 u).setFar (far h2) 1 v).setFar (far h2) 2 t
  · exact ((h3.setFar (far h3) 0 u).setFar (far h3) 1 v).setFar (far h3) 2 t
theorem proveBit_any (bit key : Int) (A : Option Addr) (n c : Nat) (zs : List Int) (w : World) (h : Ints .i64 w A n c zs) :
    Calls Try.prog 15 #[.int .i64 bit, .int .i64 key, .slice A n c] w (GivesBP (prMV bit key zs) (prCV bit key zs) (prAV bit key zs) (prB bit key zs) w) := by
  have b0 := bel_alloc w (.cells [.slice none 0 0, .slice none 0 0, .slice none 0 0].toArray 31)
  have C0 := Cs.new w [.slice none 0 0, .slice none 0 0, .slice none 0 0] 31
  have q0z := C0.cell 0 rfl
  have q1z := C0.cell 1 rfl
  have q2z := C0.cell 2 rfl
  have f0z := C0.free 0 rfl
  have f1z := C0.free 1 rfl
  have f2z := C0.free 2 rfl
  have ltz := C0.1
  have h3 := h.short
  cases hb : inR bit 0 1
  · have R : Hid (prB bit key zs = false) := by show _ = _; simp [prB, hb]
    have HB := Lib.hid hb
    clear hb
    go_enter Try.func15, Try.ntmps15
    go_wp2_with fail
    refine (within_val HB.out _).mono ?_
    rintro e w' ⟨rfl, rfl⟩
    go_wp2_with fail
    exact bodyPost_ret (v := .tuple #[.agg #[.slice none 0 0, .slice none 0 0, .slice none 0 0], .bool false]) (by simp [results, Try.results15, go_sem]) rfl (givesBP_bad R.out b0)
  · cases hk : expB key
    · have R : Hid (prB bit key zs = false) := by show _ = _; simp [prB, hk]
      have HB := Lib.hid hb
      have HK := Lib.hid hk
      clear hb hk
      go_enter Try.func15, Try.ntmps15
      go_wp2_with fail
      refine (within_val HB.out _).mono ?_
      rintro e w' ⟨rfl, rfl⟩
      go_wp2_with fail
      refine (isExponent_any _ _).mono ?_
      rintro e w' ⟨rfl, rfl⟩
      rw [HK.out]
      go_wp2_with fail
      exact bodyPost_ret (v := .tuple #[.agg #[.slice none 0 0, .slice none 0 0, .slice none 0 0], .bool false]) (by simp [results, Try.results15, go_sem]) rfl (givesBP_bad R.out b0)
    · cases hz : allB zs 3 expB
      · have R : Hid (prB bit key zs = false) := by show _ = _; simp [prB, hz]
        have HB := Lib.hid hb
        have HK := Lib.hid hk
        have HZ := Lib.hid hz
        clear hb hk hz
        go_enter Try.func15, Try.ntmps15
        go_wp2_with fail
        refine (within_val HB.out _).mono ?_
        rintro e w' ⟨rfl, rfl⟩
        go_wp2_with fail
        refine (isExponent_any _ _).mono ?_
        rintro e w' ⟨rfl, rfl⟩
        rw [HK.out]
        go_wp2_with fail
        refine (areAll_isExponent _ n c zs 3 _ (h.below b0)).mono ?_
        rintro e w1 ⟨rfl, b1⟩
        rw [HZ.out]
        have bb1 := bel_trans b0 b1
        have C1 := C0.below b1
        have q0a := C1.cell 0 rfl
        have q1a := C1.cell 1 rfl
        have q2a := C1.cell 2 rfl
        have f0a := C1.free 0 rfl
        have f1a := C1.free 1 rfl
        have f2a := C1.free 2 rfl
        have lta := C1.1
        go_wp2_with fail
        have hbl := ((bb1.setCell (p := ⟨w.heap.size, 0, none⟩) (Nat.le_refl _) (.slice none 0 0)).setCell (p := ⟨w.heap.size, 1, none⟩) (Nat.le_refl _) (.slice none 0 0)).setCell (p := ⟨w.heap.size, 2, none⟩) (Nat.le_refl _) (.slice none 0 0)
        have D1 := ((C1.set 0 (.slice none 0 0) (by simp)).set 1 (.slice none 0 0) (by simp)).set 2 (.slice none 0 0) (by simp)
        obtain ⟨wz, hwz⟩ : ∃ z, ((w1.setCell ⟨w.heap.size, 0, none⟩ (.slice none 0 0)).setCell ⟨w.heap.size, 1, none⟩ (.slice none 0 0)).setCell ⟨w.heap.size, 2, none⟩ (.slice none 0 0) = z := ⟨_, rfl⟩
        rw [hwz] at hbl D1 ⊢
        have d0 := D1.cell 0 (v := .slice none 0 0) (by simp)
        have d1 := D1.cell 1 (v := .slice none 0 0) (by simp)
        have d2 := D1.cell 2 (v := .slice none 0 0) (by simp)
        exact bodyPost_ret (v := .tuple #[.agg #[.slice none 0 0, .slice none 0 0, .slice none 0 0], .bool false]) (by simp [results, Try.results15, go_sem, d0, d1, d2]) rfl (givesBP_bad R.out hbl)
      · have R : prB bit key zs = true := by simp [prB, hb, hk, hz]
        obtain ⟨e1, e2, e3⟩ := pr_yes R
        rw [e1, e2, e3, R]
        have bb := inR_true.1 hb
        rcases (show bit = 0 ∨ bit = 1 by omega) with rfl | rfl
        · exact proveBit_zero key A n c zs w h hk hz
        · exact proveBit_one key A n c zs w h hk hz
theorem specProveBit_any (bit key : Int) (A : Option Addr) (n c : Nat) (zs : List Int) (w : World) (h : Ints .i64 w A n c zs) :
    Calls Try.prog 21 #[.int .i64 bit, .int .i64 key, .slice A n c] w (GivesBP (prMV bit key zs) (prCV bit key zs) (prAV bit key zs) (prB bit key zs) w) := by
  have b0 := bel_alloc w (.cells [.slice none 0 0, .slice none 0 0, .slice none 0 0].toArray 31)
  have C0 := Cs.new w [.slice none 0 0, .slice none 0 0, .slice none 0 0] 31
  have q0z := C0.cell 0 rfl
  have q1z := C0.cell 1 rfl
  have q2z := C0.cell 2 rfl
  have f0z := C0.free 0 rfl
  have f1z := C0.free 1 rfl
  have f2z := C0.free 2 rfl
  have ltz := C0.1
  have h3 := h.short
  cases hb : inR bit 0 1
  · have R : Hid (prB bit key zs = false) := by show _ = _; simp [prB, hb]
    have HB := Lib.hid hb
    clear hb
    go_enter Try.func21, Try.ntmps21
    go_wp2_with fail
    refine (l00In_val HB.out _).mono ?_
    rintro e w' ⟨rfl, rfl⟩
    go_wp2_with fail
    exact bodyPost_ret (v := .tuple #[.agg #[.slice none 0 0, .slice none 0 0, .slice none 0 0], .bool false]) (by simp [results, Try.results21, go_sem]) rfl (givesBP_bad R.out b0)
  · cases hk : expB key
    · have R : Hid (prB bit key zs = false) := by show _ = _; simp [prB, hk]
      have HB := Lib.hid hb
      have HK := Lib.hid hk
      clear hb hk
      go_enter Try.func21, Try.ntmps21
      go_wp2_with fail
      refine (l00In_val HB.out _).mono ?_
      rintro e w' ⟨rfl, rfl⟩
      go_wp2_with fail
      refine (l09Exponent_any _ _).mono ?_
      rintro e w' ⟨rfl, rfl⟩
      rw [HK.out]
      go_wp2_with fail
      exact bodyPost_ret (v := .tuple #[.agg #[.slice none 0 0, .slice none 0 0, .slice none 0 0], .bool false]) (by simp [results, Try.results21, go_sem]) rfl (givesBP_bad R.out b0)
    · cases hz : allB zs 3 expB
      · have R : Hid (prB bit key zs = false) := by show _ = _; simp [prB, hz]
        have HB := Lib.hid hb
        have HK := Lib.hid hk
        have HZ := Lib.hid hz
        clear hb hk hz
        go_enter Try.func21, Try.ntmps21
        go_wp2_with fail
        refine (l00In_val HB.out _).mono ?_
        rintro e w' ⟨rfl, rfl⟩
        go_wp2_with fail
        refine (l09Exponent_any _ _).mono ?_
        rintro e w' ⟨rfl, rfl⟩
        rw [HK.out]
        go_wp2_with fail
        refine (l09Exponents_any _ n c zs 3 _ (h.below b0)).mono ?_
        rintro e w1 ⟨rfl, rfl⟩
        rw [HZ.out]
        go_wp2_with fail
        exact bodyPost_ret (v := .tuple #[.agg #[.slice none 0 0, .slice none 0 0, .slice none 0 0], .bool false]) (by simp [results, Try.results21, go_sem]) rfl (givesBP_bad R.out b0)
      · have R : prB bit key zs = true := by simp [prB, hb, hk, hz]
        obtain ⟨e1, e2, e3⟩ := pr_yes R
        rw [e1, e2, e3, R]
        have HB := Lib.hid hb
        have HK := Lib.hid hk
        have HZ := Lib.hid hz
        have HP : Hid (Calls Try.prog 68 #[.int .i64 bit, .int .i64 key, .slice A n c] (w.alloc (.cells #[.slice none 0 0, .slice none 0 0, .slice none 0 0] 31)) (GivesB1 (prM bit key zs) (prC bit key zs) (prA bit key zs) (w.alloc (.cells #[.slice none 0 0, .slice none 0 0, .slice none 0 0] 31)))) := by
          show Calls _ _ _ _ _
          have bb := inR_true.1 hb
          rcases (show bit = 0 ∨ bit = 1 by omega) with rfl | rfl
          · exact l09Prove_zero key A n c zs _ (h.below b0) hk hz
          · exact l09Prove_one key A n c zs _ (h.below b0) hk hz
        clear hb hk hz R e1 e2 e3
        go_enter Try.func21, Try.ntmps21
        go_wp2_with fail
        refine (l00In_val HB.out _).mono ?_
        rintro e w' ⟨rfl, rfl⟩
        go_wp2_with fail
        refine (l09Exponent_any _ _).mono ?_
        rintro e w' ⟨rfl, rfl⟩
        rw [HK.out]
        go_wp2_with fail
        refine (l09Exponents_any _ n c zs 3 _ (h.below b0)).mono ?_
        rintro e w1 ⟨rfl, rfl⟩
        rw [HZ.out]
        go_wp2_with fail
        refine HP.out.mono ?_
        rintro e w1 ⟨A1, c1, B1, d1, C1, f1, rfl, o1, o2, o3, ap, b1⟩
        have D0 := C0.below b1
        have q0a := D0.cell 0 rfl
        have q1a := D0.cell 1 rfl
        have q2a := D0.cell 2 rfl
        have f0a := D0.free 0 rfl
        have f1a := D0.free 1 rfl
        have f2a := D0.free 2 rfl
        have lta := D0.1
        have bb1 := bel_trans b0 b1
        go_wp2_with fail
        have hbl := ((bb1.setCell (p := ⟨w.heap.size, 0, none⟩) (Nat.le_refl _) (.slice A1 (prM bit key zs).length c1)).setCell (p := ⟨w.heap.size, 1, none⟩) (Nat.le_refl _) (.slice B1 (prC bit key zs).length d1)).setCell (p := ⟨w.heap.size, 2, none⟩) (Nat.le_refl _) (.slice C1 (prA bit key zs).length f1)
        obtain ⟨D1, u1, u2, u3⟩ := putBP D0 (.slice A1 (prM bit key zs).length c1) (.slice B1 (prC bit key zs).length d1) (.slice C1 (prA bit key zs).length f1) (by simp) o1 o2 o3
        change bodyPost _ _ _ _ _ (putR w1 w.heap.size (.slice A1 (prM bit key zs).length c1) (.slice B1 (prC bit key zs).length d1) (.slice C1 (prA bit key zs).length f1))
        change Below _ _ (putR w1 w.heap.size (.slice A1 (prM bit key zs).length c1) (.slice B1 (prC bit key zs).length d1) (.slice C1 (prA bit key zs).length f1)) at hbl
        obtain ⟨wz, hwz⟩ : ∃ z, putR w1 w.heap.size (.slice A1 (prM bit key zs).length c1) (.slice B1 (prC bit key zs).length d1) (.slice C1 (prA bit key zs).length f1) = z := ⟨_, rfl⟩
        rw [hwz] at hbl D1 u1 u2 u3 ⊢
        have d0 := D1.cell 0 (v := .slice A1 (prM bit key zs).length c1) (by simp)
        have d1' := D1.cell 1 (v := .slice B1 (prC bit key zs).length d1) (by simp)
        have d2 := D1.cell 2 (v := .slice C1 (prA bit key zs).length f1) (by simp)
        exact bodyPost_ret (v := .tuple #[.agg #[.slice A1 (prM bit key zs).length c1, .slice B1 (prC bit key zs).length d1, .slice C1 (prA bit key zs).length f1], .bool true]) (by simp [results, Try.results21, go_sem, d0, d1', d2]) rfl ⟨A1, c1, B1, d1, C1, f1, rfl, u1.mono (by simp), u2.mono (by simp), u3.mono (by simp), ap, hbl⟩
end Go.Proofs.Ytnjnngnagdhaiaa
