/- slices.SortFunc over fractions of the call's own. -/
import Derived.Test.YtiodbjfchfmlcaaPhr
import Derived.Test.YtiodbjfchfmlcaaEqM
import Derived.Test.YtiodbjfchfmlcaaPhase
import Derived.Test.YtiodbjfchfmlcaaSkip
namespace Go.Proofs.Ytiodbjfchfmlcaa
set_option linter.unusedVariables false
set_option linter.unusedSimpArgs false
set_option maxRecDepth 100000
open Go.RowKit Go.Deep
--GENBEG
--GENEND
theorem gr_belS {a b c : World} {row : Option Nat} (h : a.grownBy b row) (k : Below b.heap.size b c) : a.grownBy c row :=
  grown_trans h ⟨k.os, k.tape, k.output, k.size, fun j hj _ => k.block j hj⟩
theorem swap_permF {x y : Int} : ∀ {zs : List Int} {k : Nat}, zs[k]? = some y → zs[k + 1]? = some x → ((zs.set (k + 1) y).set k x).Perm zs
  | [], k, h, _ => by simp at h
  | a :: l, 0, h, h2 => by
    cases l with
    | nil => simp at h2
    | cons b l =>
      simp at h h2
      subst h
      subst h2
      exact List.Perm.swap ..
  | a :: l, k + 1, h, h2 => by
    have := swap_permF (zs := l) (k := k) (by simpa using h) (by simpa using h2)
    simpa using this.cons a
/-- The first k are in order. -/
def SrtP (us : List Int) (k : Nat) : Prop := ∀ a b, a < b → b < k → us.getD a 0 ≤ us.getD b 0
/-- The first k + 1 are in order but for number j, which is at most those behind it. -/
def InsP (us : List Int) (j k : Nat) : Prop := (∀ a b, a < b → b ≤ k → a ≠ j → b ≠ j → us.getD a 0 ≤ us.getD b 0) ∧ ∀ b, j < b → b ≤ k → us.getD j 0 ≤ us.getD b 0
theorem SrtP.ins {us : List Int} {k : Nat} (h : SrtP us k) : InsP us k k := ⟨fun a b h1 h2 _ h4 => h a b h1 (by omega), fun b h1 h2 => by omega⟩
theorem InsP.zero {us : List Int} {k : Nat} (h : InsP us 0 k) : SrtP us (k + 1) := fun a b h1 h2 => by
  by_cases ha : a = 0
  · subst ha; exact h.2 b h1 (by omega)
  · exact h.1 a b h1 (by omega) ha (by omega)
theorem InsP.stop {us : List Int} {j k : Nat} (h : InsP us j k) (hj : 0 < j) (hk : j ≤ k) (hle : us.getD (j - 1) 0 ≤ us.getD j 0) : SrtP us (k + 1) := fun a b h1 h2 => by
  by_cases ha : a = j
  · subst ha; exact h.2 b h1 (by omega)
  · by_cases hb : b = j
    · subst hb
      by_cases ha2 : a = b - 1
      · subst ha2; exact hle
      · exact Int.le_trans (h.1 a (b - 1) (by omega) (by omega) ha (by omega)) hle
    · exact h.1 a b h1 (by omega) ha hb
theorem getD_swap {us : List Int} {j : Nat} (hj : 0 < j) (hl : j < us.length) (i : Nat) :
    ((us.set j (us.getD (j - 1) 0)).set (j - 1) (us.getD j 0)).getD i 0 = if i = j - 1 then us.getD j 0 else if i = j then us.getD (j - 1) 0 else us.getD i 0 := by
  by_cases h1 : i = j - 1
  · subst h1
    rw [if_pos rfl, List.getD_eq_getElem?_getD, List.getElem?_set_self (by rw [List.length_set]; omega)]
    rfl
  · rw [if_neg h1, List.getD_eq_getElem?_getD, List.getElem?_set_ne (by omega)]
    by_cases h2 : i = j
    · subst h2
      rw [if_pos rfl, List.getElem?_set_self hl]
      rfl
    · rw [if_neg h2, List.getElem?_set_ne (by omega), ← List.getD_eq_getElem?_getD]
theorem InsP.step {us : List Int} {j k : Nat} (h : InsP us j k) (hj : 0 < j) (hk : j ≤ k) (hl : j < us.length) (hlt : us.getD j 0 < us.getD (j - 1) 0) : InsP ((us.set j (us.getD (j - 1) 0)).set (j - 1) (us.getD j 0)) (j - 1) k := by
  refine ⟨fun a b h1 h2 h3 h4 => ?_, fun b h1 h2 => ?_⟩
  · rw [getD_swap hj hl, getD_swap hj hl, if_neg h3, if_neg h4]
    by_cases ha : a = j
    · subst ha
      rw [if_pos rfl, if_neg (by omega)]
      exact h.1 (a - 1) b (by omega) h2 (by omega) (by omega)
    · rw [if_neg ha]
      by_cases hb : b = j
      · subst hb
        rw [if_pos rfl]
        exact h.1 a (b - 1) (by omega) (by omega) ha (by omega)
      · rw [if_neg hb]
        exact h.1 a b h1 h2 ha hb
  · rw [getD_swap hj hl, getD_swap hj hl, if_pos rfl, if_neg (by omega)]
    by_cases hb : b = j
    · rw [if_pos hb]; omega
    · rw [if_neg hb]
      exact h.2 b (by omega) h2
theorem SrtP.all {us : List Int} (h : SrtP us us.length) : us.Pairwise (· ≤ ·) := by
  rw [List.pairwise_iff_getElem]
  intro i j hi hj hij
  have := h i j hij hj
  rw [List.getD_eq_getElem?_getD, List.getD_eq_getElem?_getD, List.getElem?_eq_getElem hi, List.getElem?_eq_getElem hj] at this
  exact this
/-- The closure of price. -/
theorem price1_ok {x y D : Int} (h : Sm x D) (k : Sm y D) (w : World) :
    Calls Try.prog 54 #[FV x D, FV y D] w fun e w' => e = .returned (.int .i64 (cmpI x y)) ∧ Below w.heap.size w w' := by
  have CM := Lib.hid (fun W => compare_ok h k W)
  unfold FV at CM ⊢
  obtain ⟨a, ha⟩ : ∃ z, redN x D = z := ⟨_, rfl⟩
  obtain ⟨b, hb⟩ : ∃ z, redD x D = z := ⟨_, rfl⟩
  obtain ⟨c, hc⟩ : ∃ z, redN y D = z := ⟨_, rfl⟩
  obtain ⟨d, hd⟩ : ∃ z, redD y D = z := ⟨_, rfl⟩
  obtain ⟨q, hq⟩ : ∃ z, cmpI x y = z := ⟨_, rfl⟩
  have Q1 : -1 ≤ q ∧ q ≤ 1 := by rw [← hq]; unfold cmpI; split <;> (try split) <;> omega
  rw [ha, hb, hc, hd, hq] at CM ⊢
  clear ha hb hc hd hq h k
  have BB := Lib.hid (bel_trans (bel_alloc w (.cells #[.int .i64 a, .int .i64 b] 32)) (bel_alloc _ (.cells #[.int .i64 c, .int .i64 d] 32)))
  go_enter Try.func54, Try.ntmps54
  go_wp2_with fail
  refine (CM.out _).mono ?_
  rintro e w1 ⟨rfl, b1⟩
  have B1 := Lib.hid (bel_trans BB.out b1)
  clear b1
  go_wp2_with fail
  go_ret
  exact ⟨rfl, B1.out⟩
set_option maxHeartbeats 4000000 in
theorem insF_ok (base g n c : Nat) (D : Int) (l : List Int) (w : World) (h : FrsO w base (some ⟨g, 0, none⟩) n c D l) (hn : n ≤ 1000) (hs : ∀ z ∈ l, Sm z D) :
    Calls Try.prog 67 #[.slice (some ⟨g, 0, none⟩) n c, .int .i64 0, .int .i64 n, .func (.func 54) #[] #[]] w fun r w' => r = .returned (.tuple #[]) ∧ FrsO w' base (some ⟨g, 0, none⟩) n c D (srtI l) ∧ w.grownBy w' (some g) := by
  have HS := Lib.hid hs
  have H := Lib.hid h
  have hl0 := Lib.hid h.len
  clear hs h
  go_enter Try.func67, Try.ntmps67
  go_wp2_with fail
  go_loopw [8] (fun t wr => ∃ (k : Nat) (ys : List Int), 1 ≤ k ∧ t = .int .i64 k ∧ k ≤ n + 1 ∧ ys.Perm l ∧ SrtP ys k ∧ FrsO wr base (some ⟨g, 0, none⟩) n c D ys ∧ w.grownBy wr (some g)) (fun t _ => n + 1 - (intOf t).toNat)
  case atStart => exact ⟨1, l, Nat.le_refl _, rfl, by omega, List.Perm.refl _, fun a b h1 h2 => by omega, H.out, World.grownBy.refl _ _⟩
  case round =>
    obtain ⟨k, ys, hk, rfl, hkn, hp, hso, ho, hb⟩ := hrel
    have HP := Lib.hid hp
    have HSO := Lib.hid hso
    have HO := Lib.hid ho
    have HW := Lib.hid hb
    clear hp hso ho hb H
    by_cases hlt : k < n
    · have d0 := decide_eq_true (show (k : Int) < (n : Int) by omega)
      go_wp2_with fail
      go_loopw [9] (fun t wr => ∃ (j : Nat) (ys : List Int), j ≤ k ∧ t = .int .i64 j ∧ ys.Perm l ∧ InsP ys j k ∧ FrsO wr base (some ⟨g, 0, none⟩) n c D ys ∧ w.grownBy wr (some g)) (fun t _ => (intOf t).toNat)
      case atStart => exact ⟨k, ys, Nat.le_refl _, rfl, HP.out, HSO.out.ins, HO.out, HW.out⟩
      case round =>
        obtain ⟨j, us, hj, rfl, hp, hins, ho, hb⟩ := hrel
        have HP2 := Lib.hid hp
        have HI := Lib.hid hins
        have HO2 := Lib.hid ho
        have HB := Lib.hid hb
        have hl := ho.len
        have gl := (ho.block g rfl).2
        clear hp hins ho hb HP HSO HO HW
        by_cases hj0 : 0 < j
        · have d1 := decide_eq_true (show (0 : Int) < (j : Int) by omega)
          have hx := List.getElem?_eq_getElem (show j < us.length by omega)
          have hy := List.getElem?_eq_getElem (show j - 1 < us.length by omega)
          obtain ⟨x, hxx⟩ : ∃ x, us[j] = x := ⟨_, rfl⟩
          obtain ⟨y, hyy⟩ : ∃ y, us[j - 1] = y := ⟨_, rfl⟩
          rw [hxx] at hx
          rw [hyy] at hy
          obtain ⟨g', eg, _, _, cx0, cx1, cfz⟩ := HO2.out.at hx
          simp only [Option.some.injEq, Addr.mk.injEq, and_true] at eg
          subst eg
          obtain ⟨g', eg, _, _, cy0, cy1, _⟩ := HO2.out.at hy
          simp only [Option.some.injEq, Addr.mk.injEq, and_true] at eg
          subst eg
          have sx := HS.out x (HP2.out.mem_iff.1 (List.mem_of_getElem? hx))
          have sy := HS.out y (HP2.out.mem_iff.1 (List.mem_of_getElem? hy))
          have HC0 := fun W => price1_ok sx sy W
          have gdx : us.getD j 0 = x := by rw [List.getD_eq_getElem?_getD, hx]; rfl
          have gdy : us.getD (j - 1) 0 = y := by rw [List.getD_eq_getElem?_getD, hy]; rfl
          have HXY := Lib.hid (And.intro hx hy)
          obtain ⟨X0, hX0⟩ : ∃ z, redN x D = z := ⟨_, rfl⟩
          obtain ⟨X1, hX1⟩ : ∃ z, redD x D = z := ⟨_, rfl⟩
          obtain ⟨Y0, hY0⟩ : ∃ z, redN y D = z := ⟨_, rfl⟩
          obtain ⟨Y1, hY1⟩ : ∃ z, redD y D = z := ⟨_, rfl⟩
          obtain ⟨q, hq⟩ : ∃ z, cmpI x y = z := ⟨_, rfl⟩
          unfold FV at HC0
          rw [hX0, hX1, hY0, hY1, hq] at HC0
          rw [hX0] at cx0
          rw [hX1] at cx1
          rw [hY0] at cy0
          rw [hY1] at cy1
          have HC := Lib.hid HC0
          have HXV := Lib.hid (And.intro (And.intro hX0 hX1) (And.intro hY0 hY1))
          have LTI := Lib.hid (show decide (q < 0) = true ↔ x < y from by
            rw [← hq, decide_eq_true_eq]
            unfold cmpI
            split <;> (try split) <;> omega)
          obtain ⟨lt, hlt2⟩ : ∃ z, decide (q < 0) = z := ⟨_, rfl⟩
          rw [hlt2] at LTI
          have STP := Lib.hid (fun (h : lt = true) => (show InsP ((us.set j y).set (j - 1) x) (j - 1) k from by
            have := HI.out.step hj0 hj (by omega) (by rw [gdx, gdy]; exact LTI.out.1 h)
            rwa [gdx, gdy] at this))
          have STO := Lib.hid (fun (h : lt = false) => HI.out.stop hj0 hj (by
            rw [gdx, gdy]
            rcases Int.lt_or_le x y with h1 | h1
            · have := LTI.out.2 h1
              rw [h] at this
              cases this
            · exact h1))
          have jn : (j : Int) < (n : Int) := by omega
          have jn0 : (0 : Int) ≤ (j : Int) := by omega
          have wj : IntKind.i64.wrap ((j : Int) - 1) = ((j - 1 : Nat) : Int) := by rw [IntWalk.i64_in _ (by omega)]; omega
          have jm : ((j - 1 : Nat) : Int) < (n : Int) := by omega
          have SS := Lib.hid (fun W (hW : Below wr.heap.size wr W) => (show Below wr.heap.size wr W ∧ W.cell? ⟨g, j * 2, none⟩ = some (.int .i64 X0) ∧ W.cell? ⟨g, j * 2 + 1, none⟩ = some (.int .i64 X1) ∧ W.cell? ⟨g, (j - 1) * 2, none⟩ = some (.int .i64 Y0) ∧ W.cell? ⟨g, (j - 1) * 2 + 1, none⟩ = some (.int .i64 Y1) from
            ⟨hW, (hW.cell (p := ⟨g, j * 2, none⟩) gl).trans cx0, (hW.cell (p := ⟨g, j * 2 + 1, none⟩) gl).trans cx1, (hW.cell (p := ⟨g, (j - 1) * 2, none⟩) gl).trans cy0, (hW.cell (p := ⟨g, (j - 1) * 2 + 1, none⟩) gl).trans cy1⟩))
          clear LTI hx hy hxx hyy cx0 cx1 cy0 cy1 cfz sx sy HC0 gdx gdy hX0 hX1 hY0 hY1 hq hl
          go_wp2_with fail
          refine wp_region_noPanic ?_
          refine wp_region_R (inFirst (fun W => Below wr.heap.size wr W ∧ W.cell? ⟨g, j * 2, none⟩ = some (.int .i64 X0) ∧ W.cell? ⟨g, j * 2 + 1, none⟩ = some (.int .i64 X1) ∧ W.cell? ⟨g, (j - 1) * 2, none⟩ = some (.int .i64 Y0) ∧ W.cell? ⟨g, (j - 1) * 2 + 1, none⟩ = some (.int .i64 Y1)) 17) (by kernel_rfl) ?_
          have hS := SS.out wr.drew ⟨rfl, rfl, rfl, Nat.le_refl _, fun _ _ => rfl⟩
          refine anyR_take (i := 0) (.int .i64 (j : Nat)) rfl (by kernel_rfl) (by kernel_rfl) (by kernel_rfl) (by kernel_rfl) (fun _ _ _ h => h) (by assumption) ⟨by rfl, ?_⟩ ?_
          · intro W hW
            go_simp
          try simp only [Act.put, List.setIfInBounds_toArray, List.set_cons_zero, List.set_cons_succ, List.getElem_toArray, List.getElem_cons_zero, List.getElem_cons_succ]
          refine anyR_take (i := 1) (.int .i64 (0 : Nat)) rfl (by kernel_rfl) (by kernel_rfl) (by kernel_rfl) (by kernel_rfl) (fun _ _ _ h => h) (by assumption) ⟨by rfl, ?_⟩ ?_
          · intro W hW
            go_simp
          try simp only [Act.put, List.setIfInBounds_toArray, List.set_cons_zero, List.set_cons_succ, List.getElem_toArray, List.getElem_cons_zero, List.getElem_cons_succ]
          refine anyR_take (i := 2) (.bool true) rfl (by kernel_rfl) (by kernel_rfl) (by kernel_rfl) (by kernel_rfl) (fun _ _ _ h => h) (by assumption) ⟨by rfl, ?_⟩ ?_
          · intro W hW
            go_simp
          try simp only [Act.put, List.setIfInBounds_toArray, List.set_cons_zero, List.set_cons_succ, List.getElem_toArray, List.getElem_cons_zero, List.getElem_cons_succ]
          refine anyR_take (i := 3) (.bool true) rfl (by kernel_rfl) (by kernel_rfl) (by kernel_rfl) (by kernel_rfl) (fun _ _ _ h => h) (by assumption) ⟨by rfl, ?_⟩ ?_
          · intro W hW
            go_simp
          try simp only [Act.put, List.setIfInBounds_toArray, List.set_cons_zero, List.set_cons_succ, List.getElem_toArray, List.getElem_cons_zero, List.getElem_cons_succ]
          refine anyR_take (i := 4) (.func (.func 54) #[] #[]) rfl (by kernel_rfl) (by kernel_rfl) (by kernel_rfl) (by kernel_rfl) (fun _ _ _ h => h) (by assumption) ⟨by rfl, ?_⟩ ?_
          · intro W hW
            go_simp
          try simp only [Act.put, List.setIfInBounds_toArray, List.set_cons_zero, List.set_cons_succ, List.getElem_toArray, List.getElem_cons_zero, List.getElem_cons_succ]
          refine anyR_take (i := 5) (.slice (some ⟨g, 0, none⟩) n c) rfl (by kernel_rfl) (by kernel_rfl) (by kernel_rfl) (by kernel_rfl) (fun _ _ _ h => h) (by assumption) ⟨by rfl, ?_⟩ ?_
          · intro W hW
            go_simp
          try simp only [Act.put, List.setIfInBounds_toArray, List.set_cons_zero, List.set_cons_succ, List.getElem_toArray, List.getElem_cons_zero, List.getElem_cons_succ]
          refine anyR_take (i := 6) (.int .i64 (j : Nat)) rfl (by kernel_rfl) (by kernel_rfl) (by kernel_rfl) (by kernel_rfl) (fun _ _ _ h => h) (by assumption) ⟨by rfl, ?_⟩ ?_
          · intro W hW
            go_simp
          try simp only [Act.put, List.setIfInBounds_toArray, List.set_cons_zero, List.set_cons_succ, List.getElem_toArray, List.getElem_cons_zero, List.getElem_cons_succ]
          refine anyR_take (i := 7) (.pointer (some ⟨g, j * 2, none⟩)) rfl (by kernel_rfl) (by kernel_rfl) (by kernel_rfl) (by kernel_rfl) (fun _ _ _ h => h) (by assumption) ⟨by rfl, ?_⟩ ?_
          · intro W hW
            go_simp
          try simp only [Act.put, List.setIfInBounds_toArray, List.set_cons_zero, List.set_cons_succ, List.getElem_toArray, List.getElem_cons_zero, List.getElem_cons_succ]
          refine anyR_take (i := 8) (.agg #[.int .i64 X0, .int .i64 X1]) rfl (by kernel_rfl) (by kernel_rfl) (by kernel_rfl) (by kernel_rfl) (fun _ _ _ h => h) (by assumption) ⟨by rfl, ?_⟩ ?_
          · intro W hW
            go_simp
          try simp only [Act.put, List.setIfInBounds_toArray, List.set_cons_zero, List.set_cons_succ, List.getElem_toArray, List.getElem_cons_zero, List.getElem_cons_succ]
          refine anyR_take (i := 9) (.slice (some ⟨g, 0, none⟩) n c) rfl (by kernel_rfl) (by kernel_rfl) (by kernel_rfl) (by kernel_rfl) (fun _ _ _ h => h) (by assumption) ⟨by rfl, ?_⟩ ?_
          · intro W hW
            go_simp
          try simp only [Act.put, List.setIfInBounds_toArray, List.set_cons_zero, List.set_cons_succ, List.getElem_toArray, List.getElem_cons_zero, List.getElem_cons_succ]
          refine anyR_take (i := 10) (.int .i64 (j : Nat)) rfl (by kernel_rfl) (by kernel_rfl) (by kernel_rfl) (by kernel_rfl) (fun _ _ _ h => h) (by assumption) ⟨by rfl, ?_⟩ ?_
          · intro W hW
            go_simp
          try simp only [Act.put, List.setIfInBounds_toArray, List.set_cons_zero, List.set_cons_succ, List.getElem_toArray, List.getElem_cons_zero, List.getElem_cons_succ]
          refine anyR_take (i := 11) (.int .i64 (j - 1 : Nat)) rfl (by kernel_rfl) (by kernel_rfl) (by kernel_rfl) (by kernel_rfl) (fun _ _ _ h => h) (by assumption) ⟨by rfl, ?_⟩ ?_
          · intro W hW
            go_simp
          try simp only [Act.put, List.setIfInBounds_toArray, List.set_cons_zero, List.set_cons_succ, List.getElem_toArray, List.getElem_cons_zero, List.getElem_cons_succ]
          refine anyR_take (i := 12) (.pointer (some ⟨g, (j - 1) * 2, none⟩)) rfl (by kernel_rfl) (by kernel_rfl) (by kernel_rfl) (by kernel_rfl) (fun _ _ _ h => h) (by assumption) ⟨by rfl, ?_⟩ ?_
          · intro W hW
            go_simp
          try simp only [Act.put, List.setIfInBounds_toArray, List.set_cons_zero, List.set_cons_succ, List.getElem_toArray, List.getElem_cons_zero, List.getElem_cons_succ]
          refine anyR_take (i := 13) (.agg #[.int .i64 Y0, .int .i64 Y1]) rfl (by kernel_rfl) (by kernel_rfl) (by kernel_rfl) (by kernel_rfl) (fun _ _ _ h => h) (by assumption) ⟨by rfl, ?_⟩ ?_
          · intro W hW
            go_simp
          try simp only [Act.put, List.setIfInBounds_toArray, List.set_cons_zero, List.set_cons_succ, List.getElem_toArray, List.getElem_cons_zero, List.getElem_cons_succ]
          refine anyR_one (i := 14) (by kernel_rfl) rfl ?_
          intro K hK
          go_simp
          go_at_call 54
          refine (HC.out _).mono ?_
          rintro _ w9 ⟨rfl, b9⟩
          have hT := SS.out w9 (bel_trans hS.1 b9)
          refine hK.out _ _ (fun _ => hT) ?_
          clear hS b9
          have hS := hT
          clear hT
          clear hK K
          try simp only [Act.put, List.setIfInBounds_toArray, List.set_cons_zero, List.set_cons_succ, List.getElem_toArray, List.getElem_cons_zero, List.getElem_cons_succ]
          refine anyR_take (i := 15) (.bool lt) rfl (by kernel_rfl) (by kernel_rfl) (by kernel_rfl) (by kernel_rfl) (fun _ _ _ h => h) (by assumption) ⟨by rfl, ?_⟩ ?_
          · intro W hW
            go_simp
          try simp only [Act.put, List.setIfInBounds_toArray, List.set_cons_zero, List.set_cons_succ, List.getElem_toArray, List.getElem_cons_zero, List.getElem_cons_succ]
          refine anyR_take (i := 16) (.bool lt) rfl (by kernel_rfl) (by kernel_rfl) (by kernel_rfl) (by kernel_rfl) (fun _ _ _ h => h) (by assumption) ⟨by rfl, ?_⟩ ?_
          · intro W hW
            go_simp
          try simp only [Act.put, List.setIfInBounds_toArray, List.set_cons_zero, List.set_cons_succ, List.getElem_toArray, List.getElem_cons_zero, List.getElem_cons_succ]
          refine anyR_done (by kernel_rfl) ?_ _
          refine NoPanic.normal ?_
          have BU := Lib.hid hS.1
          clear hS SS
          have O9 := Lib.hid (HO2.out.below BU.out)
          have B9 := Lib.hid (gr_belS HB.out BU.out)
          clear HB HO2 BU hlt2
          cases lt
          · have SR := Lib.hid (STO.out rfl)
            go_wp2_with fail
            go_roundw
            case rel => exact ⟨k + 1, us, by omega, by go_num, by omega, HP2.out, SR.out, O9.out, B9.out⟩
            case measure => simp [intOf]; omega
          · have PM := Lib.hid (show ((us.set j y).set (j - 1) x).Perm l from by
              have e : j - 1 + 1 = j := by omega
              have := swap_permF (zs := us) (k := j - 1) HXY.out.2 (by rw [e]; exact HXY.out.1)
              rw [e] at this
              exact this.trans HP2.out)
            have IP := Lib.hid (STP.out rfl)
            obtain ⟨wo, rfl⟩ : ∃ z, z = wr := ⟨_, rfl⟩
            obtain ⟨wr, rfl⟩ : ∃ z, z = w9 := ⟨_, rfl⟩
            obtain ⟨g', eg, _, _, cx0, cx1, cfz⟩ := O9.out.at HXY.out.1
            simp only [Option.some.injEq, Addr.mk.injEq, and_true] at eg
            subst eg
            obtain ⟨g', eg, _, _, cy0, cy1, _⟩ := O9.out.at HXY.out.2
            simp only [Option.some.injEq, Addr.mk.injEq, and_true] at eg
            subst eg
            rw [HXV.out.1.1] at cx0
            rw [HXV.out.1.2] at cx1
            rw [HXV.out.2.1] at cy0
            rw [HXV.out.2.2] at cy1
            have f0 := cfz (j * 2)
            have f1 := cfz (j * 2 + 1)
            have f2 := cfz ((j - 1) * 2)
            have f3 := cfz ((j - 1) * 2 + 1)
            have P1 := O9.out.put (t := y) HXY.out.1
            have hs2 : (us.set j y)[j - 1]? = some y := by rw [List.getElem?_set_ne (by omega)]; exact HXY.out.2
            have P2 := P1.1.put (t := x) hs2
            rw [HXV.out.2.1, HXV.out.2.2] at P1 P2
            rw [HXV.out.1.1, HXV.out.1.2] at P2
            have PP := Lib.hid P2.1
            have GG := Lib.hid (grown_trans B9.out (grown_trans P1.2 P2.2))
            clear cfz P1 P2 hs2 STP STO
            go_wp2_with fail
            go_region
            go_wp2_with fail
            go_roundw
            case rel => exact ⟨j - 1, _, by omega, by go_num, PM.out, IP.out, FrsO.below PP.out ⟨rfl, rfl, rfl, Nat.le_refl _, fun _ _ => rfl⟩, gr_belS GG.out ⟨rfl, rfl, rfl, Nat.le_refl _, fun _ _ => rfl⟩⟩
            case measure => simp [intOf]; omega
        · have SR := Lib.hid (show SrtP us (k + 1) from by
            have hj1 : j = 0 := by omega
            have := HI.out
            rw [hj1] at this
            exact this.zero)
          have d1 := decide_eq_false (show ¬ (0 : Int) < (j : Int) by omega)
          have d2 := decide_eq_false (show ¬ 0 < j by omega)
          go_wp2_with fail
          refine wp_region_noPanic ?_
          refine wp_region_R (inFirst (fun W => Below wr.heap.size wr W) 17) (by kernel_rfl) ?_
          have hS : Below wr.heap.size wr wr.drew := ⟨rfl, rfl, rfl, Nat.le_refl _, fun _ _ => rfl⟩
          refine anyR_take (i := 0) (.int .i64 (j : Nat)) rfl (by kernel_rfl) (by kernel_rfl) (by kernel_rfl) (by kernel_rfl) (fun _ _ _ h => h) (by assumption) ⟨by rfl, ?_⟩ ?_
          · intro W hW
            go_simp
          try simp only [Act.put, List.setIfInBounds_toArray, List.set_cons_zero, List.set_cons_succ, List.getElem_toArray, List.getElem_cons_zero, List.getElem_cons_succ]
          refine anyR_take (i := 1) (.int .i64 (0 : Nat)) rfl (by kernel_rfl) (by kernel_rfl) (by kernel_rfl) (by kernel_rfl) (fun _ _ _ h => h) (by assumption) ⟨by rfl, ?_⟩ ?_
          · intro W hW
            go_simp
          try simp only [Act.put, List.setIfInBounds_toArray, List.set_cons_zero, List.set_cons_succ, List.getElem_toArray, List.getElem_cons_zero, List.getElem_cons_succ]
          refine anyR_take (i := 2) (.bool false) rfl (by kernel_rfl) (by kernel_rfl) (by kernel_rfl) (by kernel_rfl) (fun _ _ _ h => h) (by assumption) ⟨by rfl, ?_⟩ ?_
          · intro W hW
            go_simp
          try simp only [Act.put, List.setIfInBounds_toArray, List.set_cons_zero, List.set_cons_succ, List.getElem_toArray, List.getElem_cons_zero, List.getElem_cons_succ]
          refine anyR_take (i := 3) (.bool false) rfl (by kernel_rfl) (by kernel_rfl) (by kernel_rfl) (by kernel_rfl) (fun _ _ _ h => h) (by assumption) ⟨by rfl, ?_⟩ ?_
          · intro W hW
            go_simp
          try simp only [Act.put, List.setIfInBounds_toArray, List.set_cons_zero, List.set_cons_succ, List.getElem_toArray, List.getElem_cons_zero, List.getElem_cons_succ]
          refine anyR_skip (i := 4) rfl (by kernel_rfl) (by kernel_rfl) (by kernel_rfl) (by kernel_rfl) (fun _ _ _ h => h) (by assumption) (by rfl) ?_
          try simp only [Act.put, List.setIfInBounds_toArray, List.set_cons_zero, List.set_cons_succ, List.getElem_toArray, List.getElem_cons_zero, List.getElem_cons_succ]
          refine anyR_skip (i := 5) rfl (by kernel_rfl) (by kernel_rfl) (by kernel_rfl) (by kernel_rfl) (fun _ _ _ h => h) (by assumption) (by rfl) ?_
          try simp only [Act.put, List.setIfInBounds_toArray, List.set_cons_zero, List.set_cons_succ, List.getElem_toArray, List.getElem_cons_zero, List.getElem_cons_succ]
          refine anyR_skip (i := 6) rfl (by kernel_rfl) (by kernel_rfl) (by kernel_rfl) (by kernel_rfl) (fun _ _ _ h => h) (by assumption) (by rfl) ?_
          try simp only [Act.put, List.setIfInBounds_toArray, List.set_cons_zero, List.set_cons_succ, List.getElem_toArray, List.getElem_cons_zero, List.getElem_cons_succ]
          refine anyR_skip (i := 7) rfl (by kernel_rfl) (by kernel_rfl) (by kernel_rfl) (by kernel_rfl) (fun _ _ _ h => h) (by assumption) (by rfl) ?_
          try simp only [Act.put, List.setIfInBounds_toArray, List.set_cons_zero, List.set_cons_succ, List.getElem_toArray, List.getElem_cons_zero, List.getElem_cons_succ]
          refine anyR_skip (i := 8) rfl (by kernel_rfl) (by kernel_rfl) (by kernel_rfl) (by kernel_rfl) (fun _ _ _ h => h) (by assumption) (by rfl) ?_
          try simp only [Act.put, List.setIfInBounds_toArray, List.set_cons_zero, List.set_cons_succ, List.getElem_toArray, List.getElem_cons_zero, List.getElem_cons_succ]
          refine anyR_skip (i := 9) rfl (by kernel_rfl) (by kernel_rfl) (by kernel_rfl) (by kernel_rfl) (fun _ _ _ h => h) (by assumption) (by rfl) ?_
          try simp only [Act.put, List.setIfInBounds_toArray, List.set_cons_zero, List.set_cons_succ, List.getElem_toArray, List.getElem_cons_zero, List.getElem_cons_succ]
          refine anyR_skip (i := 10) rfl (by kernel_rfl) (by kernel_rfl) (by kernel_rfl) (by kernel_rfl) (fun _ _ _ h => h) (by assumption) (by rfl) ?_
          try simp only [Act.put, List.setIfInBounds_toArray, List.set_cons_zero, List.set_cons_succ, List.getElem_toArray, List.getElem_cons_zero, List.getElem_cons_succ]
          refine anyR_skip (i := 11) rfl (by kernel_rfl) (by kernel_rfl) (by kernel_rfl) (by kernel_rfl) (fun _ _ _ h => h) (by assumption) (by rfl) ?_
          try simp only [Act.put, List.setIfInBounds_toArray, List.set_cons_zero, List.set_cons_succ, List.getElem_toArray, List.getElem_cons_zero, List.getElem_cons_succ]
          refine anyR_skip (i := 12) rfl (by kernel_rfl) (by kernel_rfl) (by kernel_rfl) (by kernel_rfl) (fun _ _ _ h => h) (by assumption) (by rfl) ?_
          try simp only [Act.put, List.setIfInBounds_toArray, List.set_cons_zero, List.set_cons_succ, List.getElem_toArray, List.getElem_cons_zero, List.getElem_cons_succ]
          refine anyR_skip (i := 13) rfl (by kernel_rfl) (by kernel_rfl) (by kernel_rfl) (by kernel_rfl) (fun _ _ _ h => h) (by assumption) (by rfl) ?_
          try simp only [Act.put, List.setIfInBounds_toArray, List.set_cons_zero, List.set_cons_succ, List.getElem_toArray, List.getElem_cons_zero, List.getElem_cons_succ]
          refine anyR_skip (i := 14) rfl (by kernel_rfl) (by kernel_rfl) (by kernel_rfl) (by kernel_rfl) (fun _ _ _ h => h) (by assumption) (by rfl) ?_
          try simp only [Act.put, List.setIfInBounds_toArray, List.set_cons_zero, List.set_cons_succ, List.getElem_toArray, List.getElem_cons_zero, List.getElem_cons_succ]
          refine anyR_skip (i := 15) rfl (by kernel_rfl) (by kernel_rfl) (by kernel_rfl) (by kernel_rfl) (fun _ _ _ h => h) (by assumption) (by rfl) ?_
          try simp only [Act.put, List.setIfInBounds_toArray, List.set_cons_zero, List.set_cons_succ, List.getElem_toArray, List.getElem_cons_zero, List.getElem_cons_succ]
          refine anyR_take (i := 16) (.bool false) rfl (by kernel_rfl) (by kernel_rfl) (by kernel_rfl) (by kernel_rfl) (fun _ _ _ h => h) (by assumption) ⟨by rfl, ?_⟩ ?_
          · intro W hW
            go_simp
          try simp only [Act.put, List.setIfInBounds_toArray, List.set_cons_zero, List.set_cons_succ, List.getElem_toArray, List.getElem_cons_zero, List.getElem_cons_succ]
          refine anyR_done (by kernel_rfl) ?_ _
          refine NoPanic.normal ?_
          have BU := Lib.hid hS
          clear hS
          have O9 := Lib.hid (HO2.out.below BU.out)
          have B9 := Lib.hid (gr_belS HB.out BU.out)
          clear HB HO2 BU
          go_wp2_with fail
          go_roundw
          case rel => exact ⟨k + 1, us, by omega, by go_num, by omega, HP2.out, SR.out, O9.out, B9.out⟩
          case measure => simp [intOf]; omega
    · have d0 := decide_eq_false (show ¬ (k : Int) < (n : Int) by omega)
      have hl := HO.out.len
      have AS := Lib.hid (srtI_eq HP.out (SrtP.all (fun a b h1 h2 => HSO.out a b h1 (by omega))))
      have FO := HO.out
      rw [AS.out] at FO
      have FH := Lib.hid FO
      clear FO hl
      go_wp2_with fail
      exact bodyPost_end (v := .tuple #[]) (by simp [results, Try.results67, go_sem]) rfl ⟨rfl, FH.out, HW.out⟩
theorem len64_any (n : Nat) (hn : n ≤ 6) (w : World) : Calls Try.prog 76 #[.int .u64 n] w fun r w' => (∃ k : Int, r = .returned (.int .i64 k)) ∧ w = w' := by
  have : n = 0 ∨ n = 1 ∨ n = 2 ∨ n = 3 ∨ n = 4 ∨ n = 5 ∨ n = 6 := by omega
  rcases this with rfl | rfl | rfl | rfl | rfl | rfl | rfl
  all_goals
    go_enter Try.func76, Try.ntmps76
    go_wp2_with fail
    go_ret
    exact ⟨⟨_, rfl⟩, rfl⟩
theorem len_any (n : Nat) (hn : n ≤ 6) (w : World) : Calls Try.prog 63 #[.int .u64 n] w fun r w' => (∃ k : Int, r = .returned (.int .i64 k)) ∧ w = w' := by
  have L := Lib.hid (len64_any n hn w)
  go_enter Try.func63, Try.ntmps63
  go_wp2_with fail
  refine L.out.mono ?_
  rintro r w1 ⟨⟨k, rfl⟩, rfl⟩
  go_wp2_with fail
  go_ret
  exact ⟨⟨_, rfl⟩, rfl⟩
theorem pdqF_ok (base g n c : Nat) (D : Int) (l : List Int) (q : Int) (w : World) (h : FrsO w base (some ⟨g, 0, none⟩) n c D l) (hn : n ≤ 6) (hs : ∀ z ∈ l, Sm z D) :
    Calls Try.prog 62 #[.slice (some ⟨g, 0, none⟩) n c, .int .i64 0, .int .i64 n, .int .i64 q, .func (.func 54) #[] #[]] w fun r w' => r = .returned (.tuple #[]) ∧ FrsO w' base (some ⟨g, 0, none⟩) n c D (srtI l) ∧ w.grownBy w' (some g) := by
  have IN := Lib.hid (insF_ok base g n c D l w h (by omega) hs)
  have d0 := decide_eq_true (show (n : Int) ≤ 12 by omega)
  have d1 := decide_eq_true (show n ≤ 12 by omega)
  clear h hs
  go_enter Try.func62, Try.ntmps62
  go_wp2_with fail
  go_loopw [1, 2] (fun t1 t2 wr => t1 = .int .i64 0 ∧ t2 = .int .i64 n ∧ wr = w) (fun _ _ _ => 0)
  case atStart => exact ⟨rfl, rfl, rfl⟩
  case round =>
    obtain ⟨rfl, rfl, rfl⟩ := hrel
    go_wp2_with fail
    refine IN.out.mono ?_
    rintro r w1 ⟨rfl, ho, hb⟩
    have HO := Lib.hid ho
    have HW := Lib.hid hb
    clear ho hb IN
    go_wp2_with fail
    exact bodyPost_ret (v := .tuple #[]) (by simp [results, Try.results62, go_sem]) rfl ⟨rfl, HO.out, HW.out⟩
theorem sortFr_ok (base g n c : Nat) (D : Int) (l : List Int) (w : World) (h : FrsO w base (some ⟨g, 0, none⟩) n c D l) (hn : n ≤ 6) (hs : ∀ z ∈ l, Sm z D) :
    Calls Try.prog 53 #[.slice (some ⟨g, 0, none⟩) n c, .func (.func 54) #[] #[]] w fun r w' => r = .returned (.tuple #[]) ∧ FrsO w' base (some ⟨g, 0, none⟩) n c D (srtI l) ∧ w.grownBy w' (some g) := by
  have IN := Lib.hid (fun q => pdqF_ok base g n c D l q w h hn hs)
  clear h hs
  go_enter Try.func53, Try.ntmps53
  go_wp2_with fail
  refine (len_any n hn _).mono ?_
  rintro r w1 ⟨⟨q, rfl⟩, rfl⟩
  go_wp2_with fail
  refine (IN.out q).mono ?_
  rintro r w1 ⟨rfl, ho, hb⟩
  have HO := Lib.hid ho
  have HW := Lib.hid hb
  clear ho hb IN
  go_wp2_with fail
  exact bodyPost_end (v := .tuple #[]) (by simp [results, Try.results53, go_sem]) rfl ⟨rfl, HO.out, HW.out⟩
end Go.Proofs.Ytiodbjfchfmlcaa
