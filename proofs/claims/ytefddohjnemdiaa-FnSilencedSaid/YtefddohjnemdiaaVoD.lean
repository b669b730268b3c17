/- distances: the least sums of the costs of steps. -/
import Derived.Test.YtefddohjnemdiaaVoE
import Derived.Test.YtefddohjnemdiaaOwnN
import Derived.Test.YtefddohjnemdiaaCells
import Derived.Test.YtefddohjnemdiaaPhase
import Derived.Laws.EntriesVeiled
namespace Go.Proofs.Ytefddohjnemdiaa
set_option linter.unusedVariables false
set_option linter.unusedSimpArgs false
set_option maxRecDepth 100000
open Go.RowKit Go.Deep
/-- The distances while they are first set. -/
def dI (V : List Vo) (i : Nat) : List Nat := (List.range V.length).map fun j => if decide (j < i) && !spk V j then 1000 else 0
theorem dI_len (V : List Vo) (i : Nat) : (dI V i).length = V.length := by simp [dI]
theorem dI_at {V : List Vo} {i j : Nat} (hj : j < V.length) : (dI V i)[j]? = some (if decide (j < i) && !spk V j then 1000 else 0) := by
  unfold dI
  rw [List.getElem?_map, List.getElem?_range hj]
  rfl
theorem dI_zero (V : List Vo) : dI V 0 = List.replicate V.length 0 := by
  apply List.ext_getElem?
  intro j
  by_cases hj : j < V.length
  · rw [dI_at hj, List.getElem?_replicate, if_pos hj]
    simp
  · rw [List.getElem?_eq_none (by rw [dI_len]; omega), List.getElem?_eq_none (by simp; omega)]
theorem dI_yes {V : List Vo} {i : Nat} (hs : spk V i = true) : dI V (i + 1) = dI V i := by
  unfold dI
  apply List.map_congr_left
  intro j hj
  by_cases e : j = i
  · subst e; rw [hs]; simp
  · rw [show decide (j < i + 1) = decide (j < i) by rw [decide_eq_decide]; omega]
theorem dI_no {V : List Vo} {i : Nat} (hi : i < V.length) (hs : spk V i = false) : dI V (i + 1) = (dI V i).set i 1000 := by
  apply List.ext_getElem?
  intro j
  by_cases hj : j < V.length
  · rw [dI_at hj]
    by_cases e : j = i
    · subst e
      rw [List.getElem?_set_self (by rw [dI_len]; exact hj), hs]
      simp
    · rw [List.getElem?_set_ne (by omega), dI_at hj, show decide (j < i + 1) = decide (j < i) by rw [decide_eq_decide]; omega]
  · rw [List.getElem?_eq_none (by rw [dI_len]; omega), List.getElem?_eq_none (by rw [List.length_set, dI_len]; omega)]
theorem dI_end (V : List Vo) : dI V V.length = dInit V := by
  apply List.ext_getElem?
  intro j
  by_cases hj : j < V.length
  · rw [dI_at hj]
    unfold dInit
    rw [List.getElem?_map, List.getElem?_eq_getElem hj, spk_at (List.getElem?_eq_getElem hj)]
    cases h : (V[j]).sp <;> simp [hj, h]
  · rw [List.getElem?_eq_none (by rw [dI_len]; omega), List.getElem?_eq_none (by simp [dInit]; omega)]
theorem made_nums (w : World) (n : Nat) (hn : n ≤ 1048576) : OwnN (w.alloc (.cells (madeCells #[.int .i64 0] n) 3)) w.heap.size (some ⟨w.heap.size, 0, none⟩) n n (zr (List.replicate n 0)) := by
  have := ownN_lits w (zr (List.replicate n 0)) (ints_of_zr (by intro x hx; rw [List.eq_of_mem_replicate hx]; omega)) (by rw [zr_len]; simpa using hn)
  rw [zr_len, List.length_replicate] at this
  rwa [show (vals (zr (List.replicate n 0))).toArray = madeCells #[.int .i64 0] n by
    apply Array.toList_inj.1
    rw [List.toList_toArray, toList_madeCells_one]
    simp [vals, zr]] at this
theorem zr_set (r : List Nat) (i y : Nat) : zr (r.set i y) = (zr r).set i (y : Int) := by simp [zr, List.map_set]
/-- What a step costs, as the program asks for it. -/
def CostP (rule N : Nat) : Prop := ∀ (k : Nat) (w : World), k < 4 → Calls Try.prog N #[.int .i64 ((k : Int) + 1)] w fun e w' => e = .returned (.int .i64 (cs rule (k + 1))) ∧ w = w'
/-- A function that is entered. -/
def EnterP (N : Nat) : Prop := ∀ (args : Array Value) (W : World), (callFunc N args).run Try.prog W = .ok (.enter N args) W
theorem distances_ok (V : List Vo) (ok : VOk V) (rule N : Nat) (hN : CostP rule N) (hE : EnterP N) (A : Option Addr) (n c : Nat) (w : World) (hV : VoV w A n c V) :
    Calls Try.prog 34 #[.slice A n c, .func (.func N) #[] #[]] w fun e w' => ∃ O oc, e = .returned (.slice O n oc) ∧ OwnN w' w.heap.size O n oc (zr (dds V (cs rule))) ∧ Below w.heap.size w w' := by
  have HV := Lib.hid hV
  have hl : V.length = n := hV.1
  have n12 := ok.n12
  have n1 := ok.n1
  have OK := Lib.hid ok
  have b0 := bel_alloc w (.cells (madeCells #[.int .i64 0] n) 3)
  have M0 := Lib.hid (made_nums w n (by omega))
  have B0 := Lib.hid b0
  have CP := Lib.hid hN
  have CF := Lib.hid hE
  have hn48 : (n : Int) ≤ 35184372088832 := by omega
  have hmk := fun W => run_make_row' (P := Try.prog) 55 3 (.int .i64 0) 8 Try.underlying55 info_num rfl .i64 .i64 n (by omega) (by omega) W
  clear ok hV b0 hN hE
  go_enter Try.func34, Try.ntmps34
  go_wp2_with fail
  obtain ⟨w1, hw1⟩ : ∃ x, w.alloc (.cells (madeCells #[.int .i64 0] n) 3) = x := ⟨_, rfl⟩
  rw [hw1] at M0 B0
  rw [hw1]
  obtain ⟨g, hg⟩ : ∃ x, w.heap.size = x := ⟨_, rfl⟩
  have gle : g ≤ w.heap.size := by omega
  rw [hg] at M0
  rw [hg]
  clear hw1 hmk
  have HG := Lib.hid hg
  clear hg
  go_loopw [17] (fun t wr => ∃ i : Nat, i ≤ n ∧ t = .int .i64 i ∧ OwnN wr g (some ⟨g, 0, none⟩) n n (zr (dI V i)) ∧ Below g w wr) (fun t _ => n - (intOf t).toNat)
  case atStart => exact ⟨0, Nat.zero_le _, rfl, by rw [dI_zero, hl]; exact M0.out, by rw [← HG.out]; exact B0.out⟩
  case round =>
    obtain ⟨i, hi, rfl, ho, hb⟩ := hrel
    have HO := Lib.hid ho
    have HB := Lib.hid hb
    clear ho hb M0 B0
    by_cases hlt : i < n
    · have d0 := decide_eq_true (show (i : Int) < (n : Int) by omega)
      have i0 : (0 : Int) ≤ (i : Int) := by omega
      have i1 : (i : Int) < (n : Int) := by omega
      obtain ⟨b, off, T, td, rfl, hbw, hc0w, hc1w, tiw⟩ := HV.out.at hlt
      have TIW := Lib.hid tiw
      rw [HG.out] at hbw
      have HBW := Lib.hid hbw
      have hc0 := (HB.out.cell (p := ⟨b, off + i * 2, none⟩) hbw).trans hc0w
      have hc1 := (HB.out.cell (p := ⟨b, off + i * 2 + 1, none⟩) hbw).trans hc1w
      obtain ⟨bv, hbv⟩ : ∃ x, spk V i = x := ⟨_, rfl⟩
      obtain ⟨tl, htl⟩ : ∃ x, (trs V i).length = x := ⟨_, rfl⟩
      rw [hbv] at hc0
      rw [htl] at hc1 TIW
      have HBV := Lib.hid hbv
      have HTL := Lib.hid htl
      have ba := bel_alloc wr (.cells #[.bool bv, .slice T tl td] 29)
      have hgw : g < wr.heap.size := (HO.out.block g rfl).2
      have O1 := Lib.hid (HO.out.below ba)
      have B1 := Lib.hid (HB.out.trans (ba.mono (Nat.le_of_lt hgw)))
      have C1 := Lib.hid (Cs.new wr [.bool bv, .slice T tl td] 29)
      have y0 := C1.out.cell 0 rfl
      have y1 := C1.out.cell 1 rfl
      clear hc0w hc1w tiw ba hbv htl
      cases bv
      · have hcx := O1.out.cell (zr_at (dI_at (V := V) (i := i) (j := i) (by omega)))
        have hfx := O1.out.free i
        go_wp2_with fail
        go_roundw
        case rel =>
          have st := HO.out.set i 1000 (by omega) (by omega)
          have ba := bel_alloc (wr.setCell ⟨g, i, none⟩ (.int .i64 1000)) (.cells #[.bool false, .slice T tl td] 29)
          refine ⟨i + 1, by omega, by go_num, ?_, (HB.out.grown st.2 (Nat.le_of_lt hgw) (fun x hx => by injection hx with hx; omega)).trans (ba.mono (by simp [World.setCell]; omega))⟩
          rw [dI_no (by omega) HBV.out, zr_set]
          exact st.1.below ba
        case measure => simp [intOf]; omega
      · go_wp2_with fail
        go_roundw
        case rel => exact ⟨i + 1, by omega, by go_num, by rw [dI_yes HBV.out]; exact O1.out, B1.out⟩
        case measure => simp [intOf]; omega
    · obtain rfl : n = i := by omega
      have d0 := decide_eq_false (show ¬ (n : Int) < (n : Int) by omega)
      have X0 : Rx V (cs rule) 0 0 (dI V n) := by rw [← hl, dI_end]; exact Rx.start
      go_wp2_with fail
      go_loopw [31] (fun t wr => ∃ (r : Nat) (ls : List Nat), r ≤ n ∧ t = .int .i64 r ∧ Rx V (cs rule) r 0 ls ∧ OwnN wr g (some ⟨g, 0, none⟩) n n (zr ls) ∧ Below g w wr) (fun t _ => n - (intOf t).toNat)
      case atStart => exact ⟨0, _, Nat.zero_le _, rfl, X0, HO.out, HB.out⟩
      case round =>
        clear HO HB X0 d0
        obtain ⟨r, ls, hr, rfl, hx, ho, hb⟩ := hrel
        have HX := Lib.hid hx
        have HO := Lib.hid ho
        have HB := Lib.hid hb
        clear hx ho hb
        by_cases hlt : r < n
        · have d0 := decide_eq_true (show (r : Int) < (n : Int) by omega)
          go_wp2_with fail
          go_loopw [35] (fun t wr => ∃ (j : Nat) (ls : List Nat), j ≤ n ∧ t = .int .i64 j ∧ Rx V (cs rule) r j ls ∧ OwnN wr g (some ⟨g, 0, none⟩) n n (zr ls) ∧ Below g w wr) (fun t _ => n - (intOf t).toNat)
          case atStart => exact ⟨0, _, Nat.zero_le _, rfl, HX.out, HO.out, HB.out⟩
          case round =>
            clear HX HO HB d0
            obtain ⟨j, ls, hj, rfl, hx, ho, hb⟩ := hrel
            have HX := Lib.hid hx
            have HO := Lib.hid ho
            have HB := Lib.hid hb
            have HR := Lib.hid hlt
            clear hx ho hb hlt
            by_cases hlt : j < n
            · have d0 := decide_eq_true (show (j : Int) < (n : Int) by omega)
              have i0 : (0 : Int) ≤ (j : Int) := by omega
              have i1 : (j : Int) < (n : Int) := by omega
              obtain ⟨b, off, T, td, rfl, hbw, hc0w, hc1w, tiw⟩ := HV.out.at hlt
              have TIW := Lib.hid tiw
              rw [HG.out] at hbw
              have HBW := Lib.hid hbw
              have hc0 := (HB.out.cell (p := ⟨b, off + j * 2, none⟩) hbw).trans hc0w
              have hc1 := (HB.out.cell (p := ⟨b, off + j * 2 + 1, none⟩) hbw).trans hc1w
              obtain ⟨bv, hbv⟩ : ∃ x, spk V j = x := ⟨_, rfl⟩
              obtain ⟨tl, htl⟩ : ∃ x, (trs V j).length = x := ⟨_, rfl⟩
              rw [hbv] at hc0
              rw [htl] at hc1 TIW
              have HBV := Lib.hid hbv
              have HTL := Lib.hid htl
              have l4 := OK.out.l4 j
              rw [htl] at l4
              have ba := bel_alloc wr (.cells #[.bool bv, .slice T tl td] 29)
              have hgw : g < wr.heap.size := (HO.out.block g rfl).2
              have O1 := Lib.hid (HO.out.below ba)
              have B1 := Lib.hid (HB.out.trans (ba.mono (Nat.le_of_lt hgw)))
              have C1 := Lib.hid (Cs.new wr [.bool bv, .slice T tl td] 29)
              have y0 := C1.out.cell 0 rfl
              have y1 := C1.out.cell 1 rfl
              clear hc0w hc1w tiw ba hbv htl
              cases bv
              · go_wp2_with fail
                go_loopw [45] (fun t wr => ∃ (k : Nat) (ls : List Nat), k ≤ tl ∧ t = .int .i64 k ∧ Rj V (cs rule) r j k ls ∧ OwnN wr g (some ⟨g, 0, none⟩) n n (zr ls) ∧ Below g w wr) (fun t _ => tl - (intOf t).toNat)
                case atStart => exact ⟨0, _, Nat.zero_le _, rfl, Rj.start HX.out, O1.out, B1.out⟩
                case round =>
                  clear HX HO HB O1 B1 C1 y0 y1 hc0 hc1 d0
                  obtain ⟨k, ls, hk, rfl, hx, ho, hb⟩ := hrel
                  have HX := Lib.hid hx
                  have HO := Lib.hid ho
                  have HB := Lib.hid hb
                  have HJ := Lib.hid hlt
                  clear hx ho hb hlt
                  by_cases hlt : k < tl
                  · have d0 := decide_eq_true (show (k : Int) < (tl : Int) by omega)
                    have k0 : (0 : Int) ≤ (k : Int) := by omega
                    have k1 : (k : Int) < (tl : Int) := by omega
                    have TIB := Lib.hid (TIW.out.below (by rw [HG.out]; exact HB.out))
                    obtain ⟨b2, off2, z, rfl, _, hct, _, _, hzi⟩ := TIB.out.at hlt
                    obtain ⟨t, ht, rfl⟩ := zr_get hzi.out
                    have HT := Lib.hid ht
                    have htn : t < n := by have := OK.out.lt j t (List.mem_of_getElem? ht); omega
                    have hJ := HJ.out
                    obtain ⟨xn, hxn⟩ : ∃ x, ls[j]? = some x := ⟨_, List.getElem?_eq_getElem (by rw [HX.out.rx.len]; omega)⟩
                    obtain ⟨yn, hyn⟩ : ∃ x, ls[t]? = some x := ⟨_, List.getElem?_eq_getElem (by rw [HX.out.rx.len]; omega)⟩
                    have hxu := HX.out.rx.ub xn (List.mem_of_getElem? hxn)
                    have hyu := HX.out.rx.ub yn (List.mem_of_getElem? hyn)
                    have hcu := cs_ok rule k (by omega)
                    have CC := Lib.hid (fun W => CP.out k W (by omega))
                    have RS := Lib.hid (HX.out.step OK.out HBV.out ht hxn hyn)
                    obtain ⟨cn, hcn⟩ : ∃ x, cs rule (k + 1) = x := ⟨_, rfl⟩
                    rw [hcn] at CC RS hcu
                    obtain ⟨mn0, hmn0⟩ : ∃ x, min xn (yn + cn) = x := ⟨_, rfl⟩
                    rw [hmn0] at RS
                    have hmu : mn0 ≤ 1000 := by have := Nat.min_le_left xn (yn + cn); omega
                    have hmz : min (xn : Int) ((yn : Int) + (cn : Int)) = (mn0 : Int) := by
                      rw [← hmn0]
                      omega
                    have hcx := HO.out.cell (zr_at hxn)
                    have hcy := HO.out.cell (zr_at hyn)
                    have hfx := HO.out.free j
                    have ST := Lib.hid (HO.out.set j (mn0 : Int) (by omega) (by omega))
                    obtain ⟨x, hx⟩ : ∃ z : Int, (xn : Int) = z := ⟨_, rfl⟩
                    obtain ⟨y, hy⟩ : ∃ z : Int, (yn : Int) = z := ⟨_, rfl⟩
                    obtain ⟨ck, hck⟩ : ∃ z : Int, (cn : Int) = z := ⟨_, rfl⟩
                    obtain ⟨mn, hmn⟩ : ∃ z : Int, (mn0 : Int) = z := ⟨_, rfl⟩
                    rw [hx] at hcx
                    rw [hy] at hcy
                    rw [hck] at CC
                    rw [hx, hy, hck, hmn] at hmz
                    rw [hmn] at ST
                    have HMN := Lib.hid hmn
                    have ew1 : IntKind.i64.wrap ((k : Int) + 1) = (k : Int) + 1 := IntWalk.i64_in _ (by omega)
                    have ew2 : IntKind.i64.wrap (y + ck) = y + ck := IntWalk.i64_in _ (by omega)
                    have hgb : g < wr.heap.size := (HO.out.block g rfl).2
                    have t0 : (0 : Int) ≤ (t : Int) := by omega
                    have t1 : (t : Int) < (n : Int) := by omega
                    have j0 : (0 : Int) ≤ (j : Int) := by omega
                    have j1 : (j : Int) < (n : Int) := by omega
                    clear hzi ht hxn hyn hcn hmn0 hx hy hck hmn hcu
                    obtain ⟨wb, hwb⟩ : ∃ X, wr = X := ⟨_, rfl⟩
                    rw [hwb] at HO HB TIB hct hcx hcy hfx ST hgb
                    rw [hwb]
                    clear hwb
                    go_wp2_with fail
                    refine wp_region_noPanic ?_
                    refine wp_region_R (inFirst (fun W => Below wb.heap.size wb W ∧ W.cell? ⟨g, j, none⟩ = some (.int .i64 x) ∧ W.cell? ⟨g, t, none⟩ = some (.int .i64 y)) 17) (by kernel_rfl) ?_
                    have SS := Lib.hid (fun (W : World) (hW : Below wb.heap.size wb W) => (show Below wb.heap.size wb W ∧ W.cell? ⟨g, j, none⟩ = some (.int .i64 x) ∧ W.cell? ⟨g, t, none⟩ = some (.int .i64 y) from ⟨hW, (hW.cell (p := ⟨g, j, none⟩) hgb).trans hcx, (hW.cell (p := ⟨g, t, none⟩) hgb).trans hcy⟩))
                    have hS := SS.out wb.drew ⟨rfl, rfl, rfl, Nat.le_refl _, fun _ _ => rfl⟩
                    refine anyR_take (i := 0) (.slice (some ⟨g, 0, none⟩) n n) rfl (by kernel_rfl) (by kernel_rfl) (by kernel_rfl) (by kernel_rfl) (fun _ _ _ h => h) (by assumption) ⟨by rfl, ?_⟩ ?_
                    · intro W hW
                      go_simp
                    try simp only [Act.put, List.setIfInBounds_toArray, List.set_cons_zero, List.set_cons_succ, List.getElem_toArray, List.getElem_cons_zero, List.getElem_cons_succ]
                    refine anyR_take (i := 1) (.int .i64 ((j : Nat) : Int)) rfl (by kernel_rfl) (by kernel_rfl) (by kernel_rfl) (by kernel_rfl) (fun _ _ _ h => h) (by assumption) ⟨by rfl, ?_⟩ ?_
                    · intro W hW
                      go_simp
                    try simp only [Act.put, List.setIfInBounds_toArray, List.set_cons_zero, List.set_cons_succ, List.getElem_toArray, List.getElem_cons_zero, List.getElem_cons_succ]
                    refine anyR_take (i := 2) (.slice (some ⟨g, 0, none⟩) n n) rfl (by kernel_rfl) (by kernel_rfl) (by kernel_rfl) (by kernel_rfl) (fun _ _ _ h => h) (by assumption) ⟨by rfl, ?_⟩ ?_
                    · intro W hW
                      go_simp
                    try simp only [Act.put, List.setIfInBounds_toArray, List.set_cons_zero, List.set_cons_succ, List.getElem_toArray, List.getElem_cons_zero, List.getElem_cons_succ]
                    refine anyR_take (i := 3) (.int .i64 ((j : Nat) : Int)) rfl (by kernel_rfl) (by kernel_rfl) (by kernel_rfl) (by kernel_rfl) (fun _ _ _ h => h) (by assumption) ⟨by rfl, ?_⟩ ?_
                    · intro W hW
                      go_simp
                    try simp only [Act.put, List.setIfInBounds_toArray, List.set_cons_zero, List.set_cons_succ, List.getElem_toArray, List.getElem_cons_zero, List.getElem_cons_succ]
                    refine anyR_take (i := 4) (.pointer (some ⟨g, (j), none⟩)) rfl (by kernel_rfl) (by kernel_rfl) (by kernel_rfl) (by kernel_rfl) (fun _ _ _ h => h) (by assumption) ⟨by rfl, ?_⟩ ?_
                    · intro W hW
                      go_simp
                    try simp only [Act.put, List.setIfInBounds_toArray, List.set_cons_zero, List.set_cons_succ, List.getElem_toArray, List.getElem_cons_zero, List.getElem_cons_succ]
                    refine anyR_take (i := 5) (.int .i64 x) rfl (by kernel_rfl) (by kernel_rfl) (by kernel_rfl) (by kernel_rfl) (fun _ _ _ h => h) (by assumption) ⟨by rfl, ?_⟩ ?_
                    · intro W hW
                      go_simp
                    try simp only [Act.put, List.setIfInBounds_toArray, List.set_cons_zero, List.set_cons_succ, List.getElem_toArray, List.getElem_cons_zero, List.getElem_cons_succ]
                    refine anyR_take (i := 6) (.slice (some ⟨g, 0, none⟩) n n) rfl (by kernel_rfl) (by kernel_rfl) (by kernel_rfl) (by kernel_rfl) (fun _ _ _ h => h) (by assumption) ⟨by rfl, ?_⟩ ?_
                    · intro W hW
                      go_simp
                    try simp only [Act.put, List.setIfInBounds_toArray, List.set_cons_zero, List.set_cons_succ, List.getElem_toArray, List.getElem_cons_zero, List.getElem_cons_succ]
                    refine anyR_take (i := 7) (.int .i64 ((t : Nat) : Int)) rfl (by kernel_rfl) (by kernel_rfl) (by kernel_rfl) (by kernel_rfl) (fun _ _ _ h => h) (by assumption) ⟨by rfl, ?_⟩ ?_
                    · intro W hW
                      go_simp
                    try simp only [Act.put, List.setIfInBounds_toArray, List.set_cons_zero, List.set_cons_succ, List.getElem_toArray, List.getElem_cons_zero, List.getElem_cons_succ]
                    refine anyR_take (i := 8) (.pointer (some ⟨g, (t), none⟩)) rfl (by kernel_rfl) (by kernel_rfl) (by kernel_rfl) (by kernel_rfl) (fun _ _ _ h => h) (by assumption) ⟨by rfl, ?_⟩ ?_
                    · intro W hW
                      go_simp
                    try simp only [Act.put, List.setIfInBounds_toArray, List.set_cons_zero, List.set_cons_succ, List.getElem_toArray, List.getElem_cons_zero, List.getElem_cons_succ]
                    refine anyR_take (i := 9) (.int .i64 y) rfl (by kernel_rfl) (by kernel_rfl) (by kernel_rfl) (by kernel_rfl) (fun _ _ _ h => h) (by assumption) ⟨by rfl, ?_⟩ ?_
                    · intro W hW
                      go_simp
                    try simp only [Act.put, List.setIfInBounds_toArray, List.set_cons_zero, List.set_cons_succ, List.getElem_toArray, List.getElem_cons_zero, List.getElem_cons_succ]
                    refine anyR_take (i := 10) (.func (.func N) #[] #[]) rfl (by kernel_rfl) (by kernel_rfl) (by kernel_rfl) (by kernel_rfl) (fun _ _ _ h => h) (by assumption) ⟨by rfl, ?_⟩ ?_
                    · intro W hW
                      go_simp
                    try simp only [Act.put, List.setIfInBounds_toArray, List.set_cons_zero, List.set_cons_succ, List.getElem_toArray, List.getElem_cons_zero, List.getElem_cons_succ]
                    refine anyR_take (i := 11) (.int .i64 ((k : Nat) : Int)) rfl (by kernel_rfl) (by kernel_rfl) (by kernel_rfl) (by kernel_rfl) (fun _ _ _ h => h) (by assumption) ⟨by rfl, ?_⟩ ?_
                    · intro W hW
                      go_simp
                    try simp only [Act.put, List.setIfInBounds_toArray, List.set_cons_zero, List.set_cons_succ, List.getElem_toArray, List.getElem_cons_zero, List.getElem_cons_succ]
                    refine anyR_take (i := 12) (.int .i64 ((k : Int) + 1)) rfl (by kernel_rfl) (by kernel_rfl) (by kernel_rfl) (by kernel_rfl) (fun _ _ _ h => h) (by assumption) ⟨by rfl, ?_⟩ ?_
                    · intro W hW
                      go_simp
                    try simp only [Act.put, List.setIfInBounds_toArray, List.set_cons_zero, List.set_cons_succ, List.getElem_toArray, List.getElem_cons_zero, List.getElem_cons_succ]
                    refine anyR_one (i := 13) (by kernel_rfl) rfl ?_
                    intro K hK
                    go_simp
                    rw [CF.out, Oper.upon_enter]
                    refine (CC.out _).mono ?_
                    rintro e w9 ⟨rfl, rfl⟩
                    refine hK.out _ _ (fun _ => hS) ?_
                    clear hK K
                    try simp only [Act.put, List.setIfInBounds_toArray, List.set_cons_zero, List.set_cons_succ, List.getElem_toArray, List.getElem_cons_zero, List.getElem_cons_succ]
                    refine anyR_take (i := 14) (.int .i64 (y + ck)) rfl (by kernel_rfl) (by kernel_rfl) (by kernel_rfl) (by kernel_rfl) (fun _ _ _ h => h) (by assumption) ⟨by rfl, ?_⟩ ?_
                    · intro W hW
                      go_simp
                    try simp only [Act.put, List.setIfInBounds_toArray, List.set_cons_zero, List.set_cons_succ, List.getElem_toArray, List.getElem_cons_zero, List.getElem_cons_succ]
                    refine anyR_take (i := 15) (.int .i64 mn) rfl (by kernel_rfl) (by kernel_rfl) (by kernel_rfl) (by kernel_rfl) (fun _ _ _ h => h) (by assumption) ⟨by rfl, ?_⟩ ?_
                    · intro W hW
                      go_simp
                    try simp only [Act.put, List.setIfInBounds_toArray, List.set_cons_zero, List.set_cons_succ, List.getElem_toArray, List.getElem_cons_zero, List.getElem_cons_succ]
                    refine anyR_take (i := 16) (.pointer (some ⟨g, (j), none⟩)) rfl (by kernel_rfl) (by kernel_rfl) (by kernel_rfl) (by kernel_rfl) (fun _ _ _ h => h) (by assumption) ⟨by rfl, ?_⟩ ?_
                    · intro W hW
                      go_simp
                    try simp only [Act.put, List.setIfInBounds_toArray, List.set_cons_zero, List.set_cons_succ, List.getElem_toArray, List.getElem_cons_zero, List.getElem_cons_succ]
                    refine anyR_one (i := 17) (by kernel_rfl) rfl ?_
                    intro K hK
                    go_simp
                    refine hK.out _ _ (fun h => absurd h (by decide)) ?_
                    clear hK K
                    try simp only [Act.put, List.setIfInBounds_toArray, List.set_cons_zero, List.set_cons_succ, List.getElem_toArray, List.getElem_cons_zero, List.getElem_cons_succ]
                    refine anyR_done (by kernel_rfl) ?_ _
                    refine NoPanic.normal ?_
                    clear hcx hcy hfx hct
                    go_wp2_with fail
                    go_roundw
                    case rel =>
                      have bd : Below (wb.setCell ⟨g, j, none⟩ (.int .i64 mn)).heap.size (wb.setCell ⟨g, j, none⟩ (.int .i64 mn)) (wb.setCell ⟨g, j, none⟩ (.int .i64 mn)).drew := ⟨rfl, rfl, rfl, Nat.le_refl _, fun _ _ => rfl⟩
                      refine ⟨k + 1, _, by omega, by go_num, RS.out, ?_, (HB.out.grown ST.out.2 (Nat.le_of_lt hgb) (fun x hx => by injection hx with hx; omega)).trans (bd.mono (by simp [World.setCell]; omega))⟩
                      rw [zr_set, HMN.out]
                      exact ST.out.1.below bd
                    case measure => simp [intOf]; omega
                  · obtain rfl : tl = k := by omega
                    have d0 := decide_eq_false (show ¬ (tl : Int) < (tl : Int) by omega)
                    go_wp2_with fail
                    have hJ := HJ.out
                    go_roundw
                    case rel => exact ⟨j + 1, ls, by omega, by go_num, Rj.done OK.out (by rw [HTL.out]; exact HX.out) HBV.out, HO.out, HB.out⟩
                    case measure => simp [intOf]; omega
              · go_wp2_with fail
                go_roundw
                case rel => exact ⟨j + 1, ls, by omega, by go_num, HX.out.spoken (by omega) HBV.out, O1.out, B1.out⟩
                case measure => simp [intOf]; omega
            · obtain rfl : n = j := by omega
              have d0 := decide_eq_false (show ¬ (n : Int) < (n : Int) by omega)
              go_wp2_with fail
              have hR := HR.out
              go_roundw
              case rel => exact ⟨r + 1, ls, by omega, by go_num, Rx.next (by rw [hl]; exact HX.out), HO.out, HB.out⟩
              case measure => simp [intOf]; omega
        · obtain rfl : n = r := by omega
          have d0 := decide_eq_false (show ¬ (n : Int) < (n : Int) by omega)
          have XD := Lib.hid (Rx.done OK.out (cs_ok rule) (by rw [hl]; exact HX.out))
          go_wp2_with fail
          go_ret
          exact ⟨_, _, rfl, by rw [← XD.out, HG.out]; exact HO.out, by rw [HG.out]; exact HB.out⟩
theorem enter1 : EnterP 32 := fun args W => by go_simp
theorem enter2 : EnterP 33 := fun args W => by rfl
theorem cost1 (rule : Nat) (h : rule ≠ 1) : CostP rule 32 := by
  intro k w hk
  unfold cs
  rw [if_neg h]
  go_enter Try.func32, Try.ntmps32
  go_wp2_with fail
  go_ret
  exact ⟨rfl, rfl⟩
theorem cost2 : CostP 1 33 := by
  intro k w hk
  unfold cs
  rw [if_pos rfl]
  go_enter Try.func33, Try.ntmps33
  go_wp2_with fail
  go_ret
  exact ⟨by push_cast; rfl, rfl⟩
end Go.Proofs.Ytefddohjnemdiaa
