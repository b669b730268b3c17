/- slices.insertionSortCmpFunc at the closure of GreedyBudget: a permutation. -/
import Derived.Test.YtiodbjfchfmlcaaElF
import Derived.Test.YtiodbjfchfmlcaaPhase
import Derived.Test.YtiodbjfchfmlcaaSkip
namespace Go.Proofs.Ytiodbjfchfmlcaa
set_option linter.unusedVariables false
set_option linter.unusedSimpArgs false
set_option maxRecDepth 100000
open Go.RowKit Go.Deep
theorem swap_perm {x y : Int} : ∀ {zs : List Int} {k : Nat}, zs[k]? = some y → zs[k + 1]? = some x → ((zs.set (k + 1) y).set k x).Perm zs
  | [], k, h, _ => by simp at h
  | a :: l, 0, h, h2 => by
    cases l with
    | nil => simp at h2
    | cons b l =>
      simp at h h2
      subst h
      subst h2
      exact List.Perm.swap ..
  | a :: l, k + 1, h, h2 => by
    have := swap_perm (zs := l) (k := k) (by simpa using h) (by simpa using h2)
    simpa using this.cons a
theorem Below.weak {B : Nat} {w w' : World} (h : Below w.heap.size w w') (hB : B ≤ w.heap.size) : Below B w w' := ⟨h.os, h.tape, h.output, h.size, fun k hk => h.block k (by omega)⟩
set_option maxHeartbeats 4000000 in
theorem ins_any (w0 : World) (lo g gp n c : Nat) (zs : List Int) (w : World) (h : OwnI w lo (some ⟨g, 0, none⟩) n c zs) (hlo : w0.heap.size ≤ lo) (hb : Below w0.heap.size w0 w) (hn : n ≤ 1000)
    (hc : ∀ W x y, Below w0.heap.size w0 W → Calls Try.prog 38 #[.int .i64 x, .int .i64 y, .pointer (some ⟨gp, 0, none⟩)] W fun r W' => ∃ k : Int, r = .returned (.int .i64 k) ∧ (-9223372036854775808 ≤ k ∧ k ≤ 9223372036854775807) ∧ Below W.heap.size W W') :
    Calls Try.prog 64 #[.slice (some ⟨g, 0, none⟩) n c, .int .i64 0, .int .i64 n, .func (.func 38) #[] #[.pointer (some ⟨gp, 0, none⟩)]] w fun r w' => r = .returned (.tuple #[]) ∧ ∃ zs', zs'.Perm zs ∧ OwnI w' lo (some ⟨g, 0, none⟩) n c zs' ∧ Below w0.heap.size w0 w' := by
  have HC := Lib.hid hc
  have H := Lib.hid h
  have B0 := Lib.hid hb
  clear hc h hb
  go_enter Try.func64, Try.ntmps64
  go_wp2_with fail
  go_loopw [8] (fun t wr => ∃ (k : Nat) (ys : List Int), 1 ≤ k ∧ t = .int .i64 k ∧ k ≤ n + 1 ∧ ys.Perm zs ∧ OwnI wr lo (some ⟨g, 0, none⟩) n c ys ∧ Below w0.heap.size w0 wr) (fun t _ => n + 1 - (intOf t).toNat)
  case atStart => exact ⟨1, zs, Nat.le_refl _, rfl, by omega, List.Perm.refl _, H.out, B0.out⟩
  case round =>
    obtain ⟨k, ys, hk, rfl, hkn, hp, ho, hb⟩ := hrel
    have HP := Lib.hid hp
    have HO := Lib.hid ho
    have HW := Lib.hid hb
    clear hp ho hb B0 H
    by_cases hlt : k < n
    · have d0 := decide_eq_true (show (k : Int) < (n : Int) by omega)
      go_wp2_with fail
      go_loopw [9] (fun t wr => ∃ (j : Nat) (ys : List Int), j ≤ k ∧ t = .int .i64 j ∧ ys.Perm zs ∧ OwnI wr lo (some ⟨g, 0, none⟩) n c ys ∧ Below w0.heap.size w0 wr) (fun t _ => (intOf t).toNat)
      case atStart => exact ⟨k, ys, Nat.le_refl _, rfl, HP.out, HO.out, HW.out⟩
      case round =>
        obtain ⟨j, us, hj, rfl, hp, ho, hb⟩ := hrel
        have HP2 := Lib.hid hp
        have HO2 := Lib.hid ho
        have HB := Lib.hid hb
        have hl := ho.len
        clear hp ho hb HP HO HW
        by_cases hj0 : 0 < j
        · have d1 := decide_eq_true (show (0 : Int) < (j : Int) by omega)
          obtain ⟨x, hx⟩ : ∃ x, us[j]? = some x := ⟨_, List.getElem?_eq_getElem (by omega)⟩
          obtain ⟨y, hy⟩ : ∃ y, us[j - 1]? = some y := ⟨_, List.getElem?_eq_getElem (by omega)⟩
          obtain ⟨gg, eg, _, gl⟩ := HO2.out.form (by omega)
          simp only [Option.some.injEq, Addr.mk.injEq, and_true] at eg
          subst eg
          have cx := HO2.out.cell hx
          have cy := HO2.out.cell hy
          have jn : (j : Int) < (n : Int) := by omega
          have jn0 : (0 : Int) ≤ (j : Int) := by omega
          have wj : IntKind.i64.wrap ((j : Int) - 1) = ((j - 1 : Nat) : Int) := by rw [IntWalk.i64_in _ (by omega)]; omega
          have jm : ((j - 1 : Nat) : Int) < (n : Int) := by omega
          have HX := Lib.hid hx
          have HY := Lib.hid hy
          have gl' := gl
          go_wp2_with fail
          refine wp_region_noPanic ?_
          refine wp_region_R (inFirst (fun W => Below wr.heap.size wr W ∧ W.cell? ⟨g, j, none⟩ = some (.int .i64 x) ∧ W.cell? ⟨g, j - 1, none⟩ = some (.int .i64 y)) 17) (by kernel_rfl) ?_
          have SS := Lib.hid (fun (W : World) (hW : Below wr.heap.size wr W) => (show Below wr.heap.size wr W ∧ W.cell? ⟨g, j, none⟩ = some (.int .i64 x) ∧ W.cell? ⟨g, j - 1, none⟩ = some (.int .i64 y) from ⟨hW, (hW.cell (p := ⟨g, j, none⟩) gl).trans cx, (hW.cell (p := ⟨g, j - 1, none⟩) gl).trans cy⟩))
          have hS := SS.out wr.drew ⟨rfl, rfl, rfl, Nat.le_refl _, fun _ _ => rfl⟩
          refine anyR_take (i := 0) (.int .i64 (j : Nat)) rfl (by kernel_rfl) (by kernel_rfl) (by kernel_rfl) (by kernel_rfl) (fun _ _ _ h => h) (by assumption) ⟨by rfl, ?_⟩ ?_
          · intro W hW
            go_simp
          try simp only [Act.put, List.setIfInBounds_toArray, List.set_cons_zero, List.set_cons_succ, List.getElem_toArray, List.getElem_cons_zero, List.getElem_cons_succ]
          refine anyR_take (i := 1) (.int .i64 (0 : Nat)) rfl (by kernel_rfl) (by kernel_rfl) (by kernel_rfl) (by kernel_rfl) (fun _ _ _ h => h) (by assumption) ⟨by rfl, ?_⟩ ?_
          · intro W hW
            go_simp
          try simp only [Act.put, List.setIfInBounds_toArray, List.set_cons_zero, List.set_cons_succ, List.getElem_toArray, List.getElem_cons_zero, List.getElem_cons_succ]
          refine anyR_take (i := 2) (.bool true) rfl (by kernel_rfl) (by kernel_rfl) (by kernel_rfl) (by kernel_rfl) (fun _ _ _ h => h) (by assumption) ⟨by rfl, ?_⟩ ?_
          · intro W hW
            go_simp
          try simp only [Act.put, List.setIfInBounds_toArray, List.set_cons_zero, List.set_cons_succ, List.getElem_toArray, List.getElem_cons_zero, List.getElem_cons_succ]
          refine anyR_take (i := 3) (.bool true) rfl (by kernel_rfl) (by kernel_rfl) (by kernel_rfl) (by kernel_rfl) (fun _ _ _ h => h) (by assumption) ⟨by rfl, ?_⟩ ?_
          · intro W hW
            go_simp
          try simp only [Act.put, List.setIfInBounds_toArray, List.set_cons_zero, List.set_cons_succ, List.getElem_toArray, List.getElem_cons_zero, List.getElem_cons_succ]
          refine anyR_take (i := 4) (.func (.func 38) #[] #[.pointer (some ⟨gp, 0, none⟩)]) rfl (by kernel_rfl) (by kernel_rfl) (by kernel_rfl) (by kernel_rfl) (fun _ _ _ h => h) (by assumption) ⟨by rfl, ?_⟩ ?_
          · intro W hW
            go_simp
          try simp only [Act.put, List.setIfInBounds_toArray, List.set_cons_zero, List.set_cons_succ, List.getElem_toArray, List.getElem_cons_zero, List.getElem_cons_succ]
          refine anyR_take (i := 5) (.slice (some ⟨g, 0, none⟩) n c) rfl (by kernel_rfl) (by kernel_rfl) (by kernel_rfl) (by kernel_rfl) (fun _ _ _ h => h) (by assumption) ⟨by rfl, ?_⟩ ?_
          · intro W hW
            go_simp
          try simp only [Act.put, List.setIfInBounds_toArray, List.set_cons_zero, List.set_cons_succ, List.getElem_toArray, List.getElem_cons_zero, List.getElem_cons_succ]
          refine anyR_take (i := 6) (.int .i64 (j : Nat)) rfl (by kernel_rfl) (by kernel_rfl) (by kernel_rfl) (by kernel_rfl) (fun _ _ _ h => h) (by assumption) ⟨by rfl, ?_⟩ ?_
          · intro W hW
            go_simp
          try simp only [Act.put, List.setIfInBounds_toArray, List.set_cons_zero, List.set_cons_succ, List.getElem_toArray, List.getElem_cons_zero, List.getElem_cons_succ]
          refine anyR_take (i := 7) (.pointer (some ⟨g, j, none⟩)) rfl (by kernel_rfl) (by kernel_rfl) (by kernel_rfl) (by kernel_rfl) (fun _ _ _ h => h) (by assumption) ⟨by rfl, ?_⟩ ?_
          · intro W hW
            go_simp
          try simp only [Act.put, List.setIfInBounds_toArray, List.set_cons_zero, List.set_cons_succ, List.getElem_toArray, List.getElem_cons_zero, List.getElem_cons_succ]
          refine anyR_take (i := 8) (.int .i64 x) rfl (by kernel_rfl) (by kernel_rfl) (by kernel_rfl) (by kernel_rfl) (fun _ _ _ h => h) (by assumption) ⟨by rfl, ?_⟩ ?_
          · intro W hW
            go_simp
          try simp only [Act.put, List.setIfInBounds_toArray, List.set_cons_zero, List.set_cons_succ, List.getElem_toArray, List.getElem_cons_zero, List.getElem_cons_succ]
          refine anyR_take (i := 9) (.slice (some ⟨g, 0, none⟩) n c) rfl (by kernel_rfl) (by kernel_rfl) (by kernel_rfl) (by kernel_rfl) (fun _ _ _ h => h) (by assumption) ⟨by rfl, ?_⟩ ?_
          · intro W hW
            go_simp
          try simp only [Act.put, List.setIfInBounds_toArray, List.set_cons_zero, List.set_cons_succ, List.getElem_toArray, List.getElem_cons_zero, List.getElem_cons_succ]
          refine anyR_take (i := 10) (.int .i64 (j : Nat)) rfl (by kernel_rfl) (by kernel_rfl) (by kernel_rfl) (by kernel_rfl) (fun _ _ _ h => h) (by assumption) ⟨by rfl, ?_⟩ ?_
          · intro W hW
            go_simp
          try simp only [Act.put, List.setIfInBounds_toArray, List.set_cons_zero, List.set_cons_succ, List.getElem_toArray, List.getElem_cons_zero, List.getElem_cons_succ]
          refine anyR_take (i := 11) (.int .i64 (j - 1 : Nat)) rfl (by kernel_rfl) (by kernel_rfl) (by kernel_rfl) (by kernel_rfl) (fun _ _ _ h => h) (by assumption) ⟨by rfl, ?_⟩ ?_
          · intro W hW
            go_simp
          try simp only [Act.put, List.setIfInBounds_toArray, List.set_cons_zero, List.set_cons_succ, List.getElem_toArray, List.getElem_cons_zero, List.getElem_cons_succ]
          refine anyR_take (i := 12) (.pointer (some ⟨g, j - 1, none⟩)) rfl (by kernel_rfl) (by kernel_rfl) (by kernel_rfl) (by kernel_rfl) (fun _ _ _ h => h) (by assumption) ⟨by rfl, ?_⟩ ?_
          · intro W hW
            go_simp
          try simp only [Act.put, List.setIfInBounds_toArray, List.set_cons_zero, List.set_cons_succ, List.getElem_toArray, List.getElem_cons_zero, List.getElem_cons_succ]
          refine anyR_take (i := 13) (.int .i64 y) rfl (by kernel_rfl) (by kernel_rfl) (by kernel_rfl) (by kernel_rfl) (fun _ _ _ h => h) (by assumption) ⟨by rfl, ?_⟩ ?_
          · intro W hW
            go_simp
          try simp only [Act.put, List.setIfInBounds_toArray, List.set_cons_zero, List.set_cons_succ, List.getElem_toArray, List.getElem_cons_zero, List.getElem_cons_succ]
          refine anyR_one (i := 14) (by kernel_rfl) rfl ?_
          intro K hK
          go_simp
          go_at_call 38
          refine (HC.out _ x y (bel_trans HB.out hS.1)).mono ?_
          rintro _ w9 ⟨r, rfl, hr, b9⟩
          have hT := SS.out w9 (bel_trans hS.1 b9)
          refine hK.out _ _ (fun _ => hT) ?_
          clear hS b9
          have hS := hT
          clear hT
          obtain ⟨lt, hlt⟩ : ∃ z, decide (r < 0) = z := ⟨_, rfl⟩
          clear hK K
          try simp only [Act.put, List.setIfInBounds_toArray, List.set_cons_zero, List.set_cons_succ, List.getElem_toArray, List.getElem_cons_zero, List.getElem_cons_succ]
          refine anyR_take (i := 15) (.bool lt) rfl (by kernel_rfl) (by kernel_rfl) (by kernel_rfl) (by kernel_rfl) (fun _ _ _ h => h) (by assumption) ⟨by rfl, ?_⟩ ?_
          · intro W hW
            go_simp
          try simp only [Act.put, List.setIfInBounds_toArray, List.set_cons_zero, List.set_cons_succ, List.getElem_toArray, List.getElem_cons_zero, List.getElem_cons_succ]
          refine anyR_take (i := 16) (.bool lt) rfl (by kernel_rfl) (by kernel_rfl) (by kernel_rfl) (by kernel_rfl) (fun _ _ _ h => h) (by assumption) ⟨by rfl, ?_⟩ ?_
          · intro W hW
            go_simp
          try simp only [Act.put, List.setIfInBounds_toArray, List.set_cons_zero, List.set_cons_succ, List.getElem_toArray, List.getElem_cons_zero, List.getElem_cons_succ]
          refine anyR_done (by kernel_rfl) ?_ _
          refine NoPanic.normal ?_
          have BU := Lib.hid hS.1
          clear hS SS
          have B9 := Lib.hid (bel_trans HB.out BU)
          have O9 := Lib.hid (HO2.out.below BU)
          clear HB HO2 BU cx cy
          cases lt
          · go_wp2_with fail
            go_roundw
            case rel => exact ⟨k + 1, us, by omega, by go_num, by omega, HP2.out, O9.out, B9.out⟩
            case measure => simp [intOf]; omega
          · obtain ⟨wo, rfl⟩ : ∃ z, z = wr := ⟨_, rfl⟩
            obtain ⟨wr, rfl⟩ : ∃ z, z = w9 := ⟨_, rfl⟩
            have cx := O9.out.cell HX.out
            have cy := O9.out.cell HY.out
            obtain ⟨gg, eg, _, gl⟩ := O9.out.form (by omega)
            simp only [Option.some.injEq, Addr.mk.injEq, and_true] at eg
            subst eg
            have fz := O9.out.1.frozenAt j
            have fz1 := O9.out.1.frozenAt (j - 1)
            have xb := bounds_i64 (O9.out.2 x (List.mem_of_getElem? HX.out))
            have yb := bounds_i64 (O9.out.2 y (List.mem_of_getElem? HY.out))
            go_wp2_with fail
            go_region
            obtain ⟨p1, g1⟩ := O9.out.set j y yb.1 yb.2
            obtain ⟨p2, g2⟩ := p1.set (j - 1) x xb.1 xb.2
            have P2 := Lib.hid p2
            have B2 := Lib.hid ((B9.out.grown g1 B9.out.size (fun z hz => by injection hz with hz; have := (O9.out.block g rfl).1; omega)).grown g2 (by simpa [World.setCell] using B9.out.size) (fun z hz => by injection hz with hz; have := (O9.out.block g rfl).1; omega))
            have PM := Lib.hid (show ((us.set j y).set (j - 1) x).Perm zs by
              have e : j - 1 + 1 = j := by omega
              have := swap_perm (zs := us) (k := j - 1) HY.out (by rw [e]; exact HX.out)
              rw [e] at this
              exact this.trans HP2.out)
            clear p1 g1 p2 g2
            go_wp2_with fail
            go_roundw
            case rel => exact ⟨j - 1, _, by omega, by go_num, PM.out, P2.out, B2.out.drew⟩
            case measure => simp [intOf]; omega
        · have hj1 : j = 0 := by omega
          have d1 := decide_eq_false (show ¬ (0 : Int) < (j : Int) by omega)
          go_wp2_with fail
          refine wp_region_noPanic ?_
          refine wp_region_R (inFirst (fun W => Below wr.heap.size wr W) 17) (by kernel_rfl) ?_
          have hS : Below wr.heap.size wr wr.drew := ⟨rfl, rfl, rfl, Nat.le_refl _, fun _ _ => rfl⟩
          refine anyR_take (i := 0) (.int .i64 (j : Nat)) rfl (by kernel_rfl) (by kernel_rfl) (by kernel_rfl) (by kernel_rfl) (fun _ _ _ h => h) (by assumption) ⟨by rfl, ?_⟩ ?_
          · intro W hW
            go_simp
          try simp only [Act.put, List.setIfInBounds_toArray, List.set_cons_zero, List.set_cons_succ, List.getElem_toArray, List.getElem_cons_zero, List.getElem_cons_succ]
          refine anyR_take (i := 1) (.int .i64 (0 : Nat)) rfl (by kernel_rfl) (by kernel_rfl) (by kernel_rfl) (by kernel_rfl) (fun _ _ _ h => h) (by assumption) ⟨by rfl, ?_⟩ ?_
          · intro W hW
            go_simp
          try simp only [Act.put, List.setIfInBounds_toArray, List.set_cons_zero, List.set_cons_succ, List.getElem_toArray, List.getElem_cons_zero, List.getElem_cons_succ]
          refine anyR_take (i := 2) (.bool false) rfl (by kernel_rfl) (by kernel_rfl) (by kernel_rfl) (by kernel_rfl) (fun _ _ _ h => h) (by assumption) ⟨by rfl, ?_⟩ ?_
          · intro W hW
            go_simp
          try simp only [Act.put, List.setIfInBounds_toArray, List.set_cons_zero, List.set_cons_succ, List.getElem_toArray, List.getElem_cons_zero, List.getElem_cons_succ]
          refine anyR_take (i := 3) (.bool false) rfl (by kernel_rfl) (by kernel_rfl) (by kernel_rfl) (by kernel_rfl) (fun _ _ _ h => h) (by assumption) ⟨by rfl, ?_⟩ ?_
          · intro W hW
            go_simp
          try simp only [Act.put, List.setIfInBounds_toArray, List.set_cons_zero, List.set_cons_succ, List.getElem_toArray, List.getElem_cons_zero, List.getElem_cons_succ]
          refine anyR_skip (i := 4) rfl (by kernel_rfl) (by kernel_rfl) (by kernel_rfl) (by kernel_rfl) (fun _ _ _ h => h) (by assumption) (by rfl) ?_
          try simp only [Act.put, List.setIfInBounds_toArray, List.set_cons_zero, List.set_cons_succ, List.getElem_toArray, List.getElem_cons_zero, List.getElem_cons_succ]
          refine anyR_skip (i := 5) rfl (by kernel_rfl) (by kernel_rfl) (by kernel_rfl) (by kernel_rfl) (fun _ _ _ h => h) (by assumption) (by rfl) ?_
          try simp only [Act.put, List.setIfInBounds_toArray, List.set_cons_zero, List.set_cons_succ, List.getElem_toArray, List.getElem_cons_zero, List.getElem_cons_succ]
          refine anyR_skip (i := 6) rfl (by kernel_rfl) (by kernel_rfl) (by kernel_rfl) (by kernel_rfl) (fun _ _ _ h => h) (by assumption) (by rfl) ?_
          try simp only [Act.put, List.setIfInBounds_toArray, List.set_cons_zero, List.set_cons_succ, List.getElem_toArray, List.getElem_cons_zero, List.getElem_cons_succ]
          refine anyR_skip (i := 7) rfl (by kernel_rfl) (by kernel_rfl) (by kernel_rfl) (by kernel_rfl) (fun _ _ _ h => h) (by assumption) (by rfl) ?_
          try simp only [Act.put, List.setIfInBounds_toArray, List.set_cons_zero, List.set_cons_succ, List.getElem_toArray, List.getElem_cons_zero, List.getElem_cons_succ]
          refine anyR_skip (i := 8) rfl (by kernel_rfl) (by kernel_rfl) (by kernel_rfl) (by kernel_rfl) (fun _ _ _ h => h) (by assumption) (by rfl) ?_
          try simp only [Act.put, List.setIfInBounds_toArray, List.set_cons_zero, List.set_cons_succ, List.getElem_toArray, List.getElem_cons_zero, List.getElem_cons_succ]
          refine anyR_skip (i := 9) rfl (by kernel_rfl) (by kernel_rfl) (by kernel_rfl) (by kernel_rfl) (fun _ _ _ h => h) (by assumption) (by rfl) ?_
          try simp only [Act.put, List.setIfInBounds_toArray, List.set_cons_zero, List.set_cons_succ, List.getElem_toArray, List.getElem_cons_zero, List.getElem_cons_succ]
          refine anyR_skip (i := 10) rfl (by kernel_rfl) (by kernel_rfl) (by kernel_rfl) (by kernel_rfl) (fun _ _ _ h => h) (by assumption) (by rfl) ?_
          try simp only [Act.put, List.setIfInBounds_toArray, List.set_cons_zero, List.set_cons_succ, List.getElem_toArray, List.getElem_cons_zero, List.getElem_cons_succ]
          refine anyR_skip (i := 11) rfl (by kernel_rfl) (by kernel_rfl) (by kernel_rfl) (by kernel_rfl) (fun _ _ _ h => h) (by assumption) (by rfl) ?_
          try simp only [Act.put, List.setIfInBounds_toArray, List.set_cons_zero, List.set_cons_succ, List.getElem_toArray, List.getElem_cons_zero, List.getElem_cons_succ]
          refine anyR_skip (i := 12) rfl (by kernel_rfl) (by kernel_rfl) (by kernel_rfl) (by kernel_rfl) (fun _ _ _ h => h) (by assumption) (by rfl) ?_
          try simp only [Act.put, List.setIfInBounds_toArray, List.set_cons_zero, List.set_cons_succ, List.getElem_toArray, List.getElem_cons_zero, List.getElem_cons_succ]
          refine anyR_skip (i := 13) rfl (by kernel_rfl) (by kernel_rfl) (by kernel_rfl) (by kernel_rfl) (fun _ _ _ h => h) (by assumption) (by rfl) ?_
          try simp only [Act.put, List.setIfInBounds_toArray, List.set_cons_zero, List.set_cons_succ, List.getElem_toArray, List.getElem_cons_zero, List.getElem_cons_succ]
          refine anyR_skip (i := 14) rfl (by kernel_rfl) (by kernel_rfl) (by kernel_rfl) (by kernel_rfl) (fun _ _ _ h => h) (by assumption) (by rfl) ?_
          try simp only [Act.put, List.setIfInBounds_toArray, List.set_cons_zero, List.set_cons_succ, List.getElem_toArray, List.getElem_cons_zero, List.getElem_cons_succ]
          refine anyR_skip (i := 15) rfl (by kernel_rfl) (by kernel_rfl) (by kernel_rfl) (by kernel_rfl) (fun _ _ _ h => h) (by assumption) (by rfl) ?_
          try simp only [Act.put, List.setIfInBounds_toArray, List.set_cons_zero, List.set_cons_succ, List.getElem_toArray, List.getElem_cons_zero, List.getElem_cons_succ]
          refine anyR_take (i := 16) (.bool false) rfl (by kernel_rfl) (by kernel_rfl) (by kernel_rfl) (by kernel_rfl) (fun _ _ _ h => h) (by assumption) ⟨by rfl, ?_⟩ ?_
          · intro W hW
            go_simp
          try simp only [Act.put, List.setIfInBounds_toArray, List.set_cons_zero, List.set_cons_succ, List.getElem_toArray, List.getElem_cons_zero, List.getElem_cons_succ]
          refine anyR_done (by kernel_rfl) ?_ _
          refine NoPanic.normal ?_
          have BU := Lib.hid hS
          clear hS
          have B9 := Lib.hid (bel_trans HB.out BU)
          have O9 := Lib.hid (HO2.out.below BU)
          clear HB HO2 BU
          go_wp2_with fail
          go_roundw
          case rel => exact ⟨k + 1, us, by omega, by go_num, by omega, HP2.out, O9.out, B9.out⟩
          case measure => simp [intOf]; omega
    · have d0 := decide_eq_false (show ¬ (k : Int) < (n : Int) by omega)
      go_wp2_with fail
      exact bodyPost_end (v := .tuple #[]) (by simp [results, Try.results64, go_sem]) rfl ⟨rfl, ys, HP.out, HO.out, HW.out⟩
set_option maxHeartbeats 2000000 in
theorem stable_any (w0 : World) (lo g gp n c : Nat) (zs : List Int) (w : World) (h : OwnI w lo (some ⟨g, 0, none⟩) n c zs) (hlo : w0.heap.size ≤ lo) (hb : Below w0.heap.size w0 w) (hn : n < 20)
    (hc : ∀ W x y, Below w0.heap.size w0 W → Calls Try.prog 38 #[.int .i64 x, .int .i64 y, .pointer (some ⟨gp, 0, none⟩)] W fun r W' => ∃ k : Int, r = .returned (.int .i64 k) ∧ (-9223372036854775808 ≤ k ∧ k ≤ 9223372036854775807) ∧ Below W.heap.size W W') :
    Calls Try.prog 58 #[.slice (some ⟨g, 0, none⟩) n c, .int .i64 n, .func (.func 38) #[] #[.pointer (some ⟨gp, 0, none⟩)]] w fun r w' => r = .returned (.tuple #[]) ∧ ∃ zs', zs'.Perm zs ∧ OwnI w' lo (some ⟨g, 0, none⟩) n c zs' ∧ Below w0.heap.size w0 w' := by
  have IN := Lib.hid (ins_any w0 lo g gp n c zs w h hlo hb (by omega) hc)
  have d0 := decide_eq_false (show ¬ (20 : Int) ≤ (n : Int) by omega)
  have d1 := decide_eq_false (show ¬ (20 : Int) < (n : Int) by omega)
  clear h hb hc
  go_enter Try.func58, Try.ntmps58
  go_wp2_with fail
  go_loopw [7, 8] (fun t7 t wr => t7 = .int .i64 0 ∧ t = .int .i64 20 ∧ wr = w) (fun _ _ _ => 0)
  case atStart => exact ⟨rfl, rfl, rfl⟩
  case round =>
    obtain ⟨rfl, rfl, rfl⟩ := hrel
    go_wp2_with fail
    refine IN.out.mono ?_
    rintro r w1 ⟨rfl, ys, hp, ho, hb⟩
    have HP := Lib.hid hp
    have HO := Lib.hid ho
    have HW := Lib.hid hb
    clear hp ho hb IN
    go_wp2_with fail
    go_loopw [6] (fun t wr => t = .int .i64 20 ∧ wr = w1) (fun _ _ => 0)
    case atStart => exact ⟨rfl, rfl⟩
    case round =>
      obtain ⟨rfl, rfl⟩ := hrel
      go_wp2_with fail
      exact bodyPost_end (v := .tuple #[]) (by simp [results, Try.results58, go_sem]) rfl ⟨rfl, ys, HP.out, HO.out, HW.out⟩
theorem sortStable_any (w0 : World) (lo g gp n c : Nat) (zs : List Int) (w : World) (h : OwnI w lo (some ⟨g, 0, none⟩) n c zs) (hlo : w0.heap.size ≤ lo) (hb : Below w0.heap.size w0 w) (hn : n < 20)
    (hc : ∀ W x y, Below w0.heap.size w0 W → Calls Try.prog 38 #[.int .i64 x, .int .i64 y, .pointer (some ⟨gp, 0, none⟩)] W fun r W' => ∃ k : Int, r = .returned (.int .i64 k) ∧ (-9223372036854775808 ≤ k ∧ k ≤ 9223372036854775807) ∧ Below W.heap.size W W') :
    Calls Try.prog 37 #[.slice (some ⟨g, 0, none⟩) n c, .func (.func 38) #[] #[.pointer (some ⟨gp, 0, none⟩)]] w fun r w' => r = .returned (.tuple #[]) ∧ ∃ zs', zs'.Perm zs ∧ OwnI w' lo (some ⟨g, 0, none⟩) n c zs' ∧ Below w0.heap.size w0 w' := by
  have IN := Lib.hid (stable_any w0 lo g gp n c zs w h hlo hb hn hc)
  clear h hb hc
  go_enter Try.func37, Try.ntmps37
  go_wp2_with fail
  refine IN.out.mono ?_
  rintro r w1 ⟨rfl, ys, hp, ho, hb⟩
  have HP := Lib.hid hp
  have HO := Lib.hid ho
  have HW := Lib.hid hb
  clear hp ho hb IN
  go_wp2_with fail
  exact bodyPost_end (v := .tuple #[]) (by simp [results, Try.results37, go_sem]) rfl ⟨rfl, ys, HP.out, HO.out, HW.out⟩
/-- The closure of GreedyBudget. -/
theorem greedy1_any (gp : Nat) (mon : Int) (CA : Option Addr) (m cc : Nat) (AA : Option Addr) (n ac : Nat) (ap : List (List Int)) (x y : Int) (w : World) (h : Rws w AA n ac ap) (hn : n ≤ 1000) (hc : Cs w gp [.int .i64 mon, .slice CA m cc, .slice AA n ac]) :
    Calls Try.prog 38 #[.int .i64 x, .int .i64 y, .pointer (some ⟨gp, 0, none⟩)] w fun r w' => ∃ k : Int, r = .returned (.int .i64 k) ∧ (-9223372036854775808 ≤ k ∧ k ≤ 9223372036854775807) ∧ Below w.heap.size w w' := by
  have H := Lib.hid h
  have CE := Lib.hid hc
  clear h hc
  go_enter Try.func38, Try.ntmps38
  go_wp2_with fail
  refine wp_region_noPanic ?_
  refine wp_region_R (inFirst (fun W => Below w.heap.size w W ∧ W.cell? ⟨gp, 0, none⟩ = some (.int .i64 mon) ∧ W.cell? ⟨gp, 1, none⟩ = some (.slice CA m cc) ∧ W.cell? ⟨gp, 2, none⟩ = some (.slice AA n ac)) 10) (by kernel_rfl) ?_
  have SS := Lib.hid (fun (W : World) (hW : Below w.heap.size w W) => (show Below w.heap.size w W ∧ W.cell? ⟨gp, 0, none⟩ = some (.int .i64 mon) ∧ W.cell? ⟨gp, 1, none⟩ = some (.slice CA m cc) ∧ W.cell? ⟨gp, 2, none⟩ = some (.slice AA n ac) from ⟨hW, (CE.out.below hW).cell 0 rfl, (CE.out.below hW).cell 1 rfl, (CE.out.below hW).cell 2 rfl⟩))
  have hS := SS.out w.drew ⟨rfl, rfl, rfl, Nat.le_refl _, fun _ _ => rfl⟩
  refine anyR_take (i := 0) (.agg #[.int .i64 mon, .slice CA m cc, .slice AA n ac]) rfl (by kernel_rfl) (by kernel_rfl) (by kernel_rfl) (by kernel_rfl) (fun _ _ _ h => h) (by assumption) ⟨by rfl, ?_⟩ ?_
  · intro W hW
    go_simp
  try simp only [Act.put, List.setIfInBounds_toArray, List.set_cons_zero, List.set_cons_succ, List.getElem_toArray, List.getElem_cons_zero, List.getElem_cons_succ]
  refine anyR_take (i := 1) (.int .i64 y) rfl (by kernel_rfl) (by kernel_rfl) (by kernel_rfl) (by kernel_rfl) (fun _ _ _ h => h) (by assumption) ⟨by rfl, ?_⟩ ?_
  · intro W hW
    go_simp
  try simp only [Act.put, List.setIfInBounds_toArray, List.set_cons_zero, List.set_cons_succ, List.getElem_toArray, List.getElem_cons_zero, List.getElem_cons_succ]
  refine anyR_take (i := 4) (.agg #[.int .i64 mon, .slice CA m cc, .slice AA n ac]) rfl (by kernel_rfl) (by kernel_rfl) (by kernel_rfl) (by kernel_rfl) (fun _ _ _ h => h) (by assumption) ⟨by rfl, ?_⟩ ?_
  · intro W hW
    go_simp
  try simp only [Act.put, List.setIfInBounds_toArray, List.set_cons_zero, List.set_cons_succ, List.getElem_toArray, List.getElem_cons_zero, List.getElem_cons_succ]
  refine anyR_take (i := 5) (.int .i64 x) rfl (by kernel_rfl) (by kernel_rfl) (by kernel_rfl) (by kernel_rfl) (fun _ _ _ h => h) (by assumption) ⟨by rfl, ?_⟩ ?_
  · intro W hW
    go_simp
  try simp only [Act.put, List.setIfInBounds_toArray, List.set_cons_zero, List.set_cons_succ, List.getElem_toArray, List.getElem_cons_zero, List.getElem_cons_succ]
  refine anyR_one (i := 2) (by kernel_rfl) rfl ?_
  intro K hK
  go_simp
  go_at_call 34
  refine (supporters_ok mon CA m cc AA n ac ap y _ (H.out.below hS.1) hn).mono ?_
  rintro _ w9 ⟨O1, L1, c1, rfl, ho1, b9⟩
  have l1 := ho1.len
  rw [zns_len] at l1
  have k1 := supN_len ap y n
  have hT := SS.out w9 (bel_trans hS.1 b9)
  refine hK.out _ _ (fun _ => hT) ?_
  clear hS b9 ho1
  have hS := hT
  clear hT
  clear hK K
  try simp only [Act.put, List.setIfInBounds_toArray, List.set_cons_zero, List.set_cons_succ, List.getElem_toArray, List.getElem_cons_zero, List.getElem_cons_succ]
  refine anyR_take (i := 3) (.int .i64 (L1 : Nat)) rfl (by kernel_rfl) (by kernel_rfl) (by kernel_rfl) (by kernel_rfl) (fun _ _ _ h => h) (by assumption) ⟨by rfl, ?_⟩ ?_
  · intro W hW
    go_simp
  try simp only [Act.put, List.setIfInBounds_toArray, List.set_cons_zero, List.set_cons_succ, List.getElem_toArray, List.getElem_cons_zero, List.getElem_cons_succ]
  refine anyR_one (i := 6) (by kernel_rfl) rfl ?_
  intro K hK
  go_simp
  go_at_call 34
  refine (supporters_ok mon CA m cc AA n ac ap x _ (H.out.below hS.1) hn).mono ?_
  rintro _ w9 ⟨O2, L2, c2, rfl, ho2, b9⟩
  have l2 := ho2.len
  rw [zns_len] at l2
  have k2 := supN_len ap x n
  have hT := SS.out w9 (bel_trans hS.1 b9)
  refine hK.out _ _ (fun _ => hT) ?_
  clear hS b9 ho2
  have hS := hT
  clear hT
  clear hK K
  try simp only [Act.put, List.setIfInBounds_toArray, List.set_cons_zero, List.set_cons_succ, List.getElem_toArray, List.getElem_cons_zero, List.getElem_cons_succ]
  have wr1 : IntKind.i64.wrap ((L1 : Int) - (L2 : Int)) = (L1 : Int) - (L2 : Int) := IntWalk.i64_in _ (by omega)
  refine anyR_take (i := 7) (.int .i64 (L2 : Nat)) rfl (by kernel_rfl) (by kernel_rfl) (by kernel_rfl) (by kernel_rfl) (fun _ _ _ h => h) (by assumption) ⟨by rfl, ?_⟩ ?_
  · intro W hW
    go_simp
  try simp only [Act.put, List.setIfInBounds_toArray, List.set_cons_zero, List.set_cons_succ, List.getElem_toArray, List.getElem_cons_zero, List.getElem_cons_succ]
  refine anyR_take (i := 8) (.int .i64 ((L1 : Int) - (L2 : Int))) rfl (by kernel_rfl) (by kernel_rfl) (by kernel_rfl) (by kernel_rfl) (fun _ _ _ h => h) (by assumption) ⟨by rfl, ?_⟩ ?_
  · intro W hW
    go_simp
  try simp only [Act.put, List.setIfInBounds_toArray, List.set_cons_zero, List.set_cons_succ, List.getElem_toArray, List.getElem_cons_zero, List.getElem_cons_succ]
  refine anyR_take (i := 9) (.int .i64 ((L1 : Int) - (L2 : Int))) rfl (by kernel_rfl) (by kernel_rfl) (by kernel_rfl) (by kernel_rfl) (fun _ _ _ h => h) (by assumption) ⟨by rfl, ?_⟩ ?_
  · intro W hW
    go_simp
  try simp only [Act.put, List.setIfInBounds_toArray, List.set_cons_zero, List.set_cons_succ, List.getElem_toArray, List.getElem_cons_zero, List.getElem_cons_succ]
  refine anyR_done (by kernel_rfl) ?_ _
  refine NoPanic.normal ?_
  have BU := Lib.hid hS.1
  clear hS SS
  go_wp2_with fail
  go_ret
  exact ⟨_, rfl, by omega, BU.out⟩
end Go.Proofs.Ytiodbjfchfmlcaa
