/- bestPath: the best path of a member. -/
import Derived.Test.YtefddohjnemdiaaVoD
import Derived.Test.YtefddohjnemdiaaVoS
import Derived.Test.YtefddohjnemdiaaSkip
namespace Go.Proofs.Ytefddohjnemdiaa
set_option linter.unusedVariables false
set_option linter.unusedSimpArgs false
set_option maxRecDepth 100000
open Go.RowKit Go.Deep
theorem OwnI.plain {w : World} {base : Nat} {A : Option Addr} {n c : Nat} {zs : List Int} (h : OwnI w base A n c zs) (hn : 0 < n) : ∃ g, A = some ⟨g, 0, none⟩ ∧ base ≤ g ∧ g < w.heap.size := h.form hn
theorem ownI_one (w : World) (m : Nat) (hm : m < 4611686018427387904) : OwnI (w.alloc (.cells #[.int .i64 m] 2)) w.heap.size (some ⟨w.heap.size, 0, none⟩) 1 1 (zr [m]) := by
  refine ⟨?_, ints_of_zr (by simpa using hm)⟩
  have := World.ownsRow_lit (base := w.heap.size) (e := 2) (size := 1) w #[.int .i64 m] 1 (Nat.le_refl _) (by unfold maxLen; omega) rfl
  simpa [vals, zr] using this
theorem dds_at {V : List Vo} {c : Nat → Nat} {i : Nat} (h : i < V.length) : (dds V c)[i]? = some (Dd V c i) := by
  unfold dds
  rw [List.getElem?_map, List.getElem?_range h]
  rfl
theorem dd_1000 {V : List Vo} (ok : VOk V) {rule i : Nat} (hi : i < V.length) : Dd V (cs rule) i ≤ 1000 := by
  by_cases h : Rch V [] i
  · have := dd_bd ok (rule := rule) hi h; omega
  · rw [dd_none h]; omega
def BestR (V : List Vo) (rule m : Nat) (w : World) (e : Ending) (w' : World) : Prop :=
  ∃ O oc, e = .returned (.slice O (bpath V rule m).length oc) ∧ OwnI w' w.heap.size O (bpath V rule m).length oc (zr (bpath V rule m)) ∧ (Rch V [] m → ∃ g, O = some ⟨g, 0, none⟩) ∧ (¬ Rch V [] m → O = none ∧ oc = 0) ∧ Below w.heap.size w w'
set_option maxHeartbeats 4000000 in
theorem bestPath_ok (V : List Vo) (ok : VOk V) (rule : Nat) (m : Nat) (hm : m < V.length) (A : Option Addr) (n c : Nat) (w : World) (hV : VoV w A n c V) (h2 : rule ≤ 2) :
    Calls Try.prog 23 #[.slice A n c, .int .i64 (rule : Int), .int .i64 m] w (BestR V rule m w) := by
  have HV := Lib.hid hV
  have hl : V.length = n := hV.1
  have n12 := ok.n12
  have n1 := ok.n1
  have OK := Lib.hid ok
  have E0 := Lib.hid (endsFrom_ok V ok m hm [] (by simp) A n c none 0 0 w hV (ints_nil _ _))
  by_cases hr : Rch V [] m
  · have HR := Lib.hid hr
    clear ok hV
    go_enter Try.func23, Try.ntmps23
    go_wp2_with fail
    refine E0.out.mono ?_
    rintro e w1 ⟨O1, L1, oc1, rfl, hL, hL12, b1⟩
    have l0 : L1 ≠ 0 := fun e => hL.1 e HR.out
    have dL : decide ((L1 : Int) = 0) = false := decide_eq_false (by omega)
    have dL2 : ((L1 : Int) == 0) = false := by rw [beq_eq_false_iff_ne]; omega
    have B1 := Lib.hid b1
    clear hL E0 b1 hr
    go_upto_if 19 with fail
    go_cut [7] from 13 (fun s wc => (∃ N, s = .func (.func N) #[] #[] ∧ CostP rule N ∧ EnterP N) ∧ w1 = wc)
    case first =>
      by_cases r1 : rule = 1
      · subst r1
        go_wp2_with fail
        go_meet
        case rel => exact ⟨⟨_, rfl, cost2, enter2⟩, rfl⟩
      · have d1 : decide ((rule : Int) = 1) = false := decide_eq_false (by omega)
        have d2 : ((rule : Int) == 1) = false := by rw [beq_eq_false_iff_ne]; omega
        have R1 := Lib.hid r1
        clear r1
        go_wp2_with fail
        go_meet
        case rel => exact ⟨⟨_, rfl, cost1 rule R1.out, enter1⟩, rfl⟩
    case rest =>
    obtain ⟨⟨N, rfl, hN, hE⟩, rfl⟩ := hcut
    have CP := Lib.hid hN
    have CF := Lib.hid hE
    clear hN hE
    go_wp2_with fail
    refine (distances_ok V OK.out rule N CP.out CF.out A n c w1 (HV.out.below B1.out)).mono ?_
    rintro e w2 ⟨D, dc, rfl, o2, b2⟩
    obtain ⟨gd, rfl, hgd, hgd2⟩ := o2.form (by omega)
    have sb1 := B1.out.size
    have DN := Lib.hid (o2.mono sb1)
    have B2 := Lib.hid (bel_trans B1.out b2)
    have O3 := ownI_one w2 m (by omega)
    have k3 := bel_alloc w2 (.cells #[.int .i64 m] 2)
    have DN3 := Lib.hid (DN.out.below k3)
    have sb2 := B2.out.size
    have P3 := Lib.hid (O3.mono sb2)
    have B3 := Lib.hid (bel_trans B2.out k3)
    clear o2 b2 O3 k3
    go_wp2_with fail
    go_loopw [9] (fun s wr => ∃ PA u pc q o, s = .slice PA (u + 1) pc ∧ u = q.length ∧ GP V rule q o ∧ bpo V rule (V.length - q.length) q o = bpath V rule m ∧ OwnI wr w.heap.size PA (u + 1) pc (zr (q ++ [o])) ∧ OwnN wr w.heap.size (some ⟨gd, 0, none⟩) n dc (zr (dds V (cs rule))) ∧ Below w.heap.size w wr) (fun s _ => n + 1 - lenV s)
    case atStart => exact ⟨_, 0, 1, [], m, rfl, rfl, GP.start hm HR.out, by unfold bpath; rw [if_pos HR.out]; rfl, P3.out, DN3.out, B3.out⟩
    case round =>
      obtain ⟨PA, u, pc, q, o, rfl, hu, hg, hb, hP, hD, hB⟩ := hrel
      have HU := Lib.hid hu
      have GG := Lib.hid hg
      have HB := Lib.hid hb
      have OP := Lib.hid hP
      have OD := Lib.hid hD
      have BB := Lib.hid hB
      have ul := hg.len
      have ol := hg.lt o (by simp)
      have ho : o < n := by omega
      have u12 : u < 12 := by omega
      clear hu hg hb hP hD hB DN DN3 P3 B3 B2
      obtain ⟨gp, rfl, gp1, gp2⟩ := OP.out.form (by omega)
      have co := OP.out.cell (j := u) (z := (o : Int)) (by have := HU.out; rw [zr_app, List.getElem?_append_right (by rw [zr_len]; omega), zr_len, show u - q.length = 0 by omega]; rfl)
      have ew0 : IntKind.i64.wrap (((u + 1 : Nat) : Int) - 1) = (u : Int) := by rw [IntWalk.i64_in _ (by omega)]; omega
      have u0 : (0 : Int) ≤ (u : Int) := by omega
      have u1 : (u : Int) < ((u + 1 : Nat) : Int) := by omega
      obtain ⟨b, off, T, td, rfl, hbw, hc0w, hc1w, tiw⟩ := HV.out.at ho
      have TIW := Lib.hid tiw
      have hc0 := (BB.out.cell (p := ⟨b, off + o * 2, none⟩) hbw).trans hc0w
      have hc1 := (BB.out.cell (p := ⟨b, off + o * 2 + 1, none⟩) hbw).trans hc1w
      obtain ⟨bv, hbv⟩ : ∃ x, spk V o = x := ⟨_, rfl⟩
      obtain ⟨tl, htl⟩ : ∃ x, (trs V o).length = x := ⟨_, rfl⟩
      rw [hbv] at hc0
      rw [htl] at hc1 TIW
      have HBV := Lib.hid hbv
      have HTL := Lib.hid htl
      have l4 := OK.out.l4 o
      rw [htl] at l4
      have o0 : (0 : Int) ≤ (o : Int) := by omega
      have o1 : (o : Int) < (n : Int) := by omega
      clear hc0w hc1w tiw hbv htl
      cases bv
      · go_wp2_with fail
        have lp : (q ++ [o]).length ≤ 12 := by simp; omega
        have vlt := GG.out
        obtain ⟨x0, hx0⟩ : ∃ x, Dd V (cs rule) o = x := ⟨_, rfl⟩
        have hx1 := dd_1000 OK.out (rule := rule) (i := o) (by omega)
        have HX0 := Lib.hid hx0
        rw [hx0] at hx1
        obtain ⟨gx, hgx⟩ : ∃ x : Int, (x0 : Int) = x := ⟨_, rfl⟩
        have HGX := Lib.hid hgx
        obtain ⟨wo, hwo⟩ : ∃ X, wr = X := ⟨_, rfl⟩
        rw [hwo] at OP OD BB hc0 hc1 co gp2
        rw [hwo]
        clear hwo
        go_loopw [9, 43] (fun s i wr2 => ∃ k : Nat, k ≤ tl ∧ s = .slice (some ⟨gp, 0, none⟩) (u + 1) pc ∧ i = .int .i64 k ∧ (∀ i x, i < k → (trs V o)[i]? = some x → ¬ okT V rule q o i x) ∧ Below wo.heap.size wo wr2) (fun _ i _ => tl - (intOf i).toNat)
        case atStart => exact ⟨0, Nat.zero_le _, rfl, rfl, fun i x hi => by omega, Below.refl _ _⟩
        case round =>
          obtain ⟨k, hk, rfl, rfl, hno, hbl⟩ := hrel
          have NO := Lib.hid hno
          have BL := Lib.hid hbl
          clear hno hbl
          by_cases hlt : k < tl
          · have d0 := decide_eq_true (show (k : Int) < (tl : Int) by omega)
            have k0 : (0 : Int) ≤ (k : Int) := by omega
            have k1 : (k : Int) < (tl : Int) := by omega
            have BW := Lib.hid (bel_trans BB.out BL.out)
            have TIB := Lib.hid (TIW.out.below BW.out)
            obtain ⟨b2, off2, z, rfl, _, hct, _, _, hzi⟩ := TIB.out.at hlt
            obtain ⟨t, ht, rfl⟩ := zr_get hzi.out
            have HT := Lib.hid ht
            have htn : t < n := by have := OK.out.lt o t (List.mem_of_getElem? ht); omega
            have OP2 := Lib.hid (OP.out.below BL.out)
            have OD2 := Lib.hid (OD.out.below BL.out)
            have VV := Lib.hid (HV.out.below BW.out)
            have IP := Lib.hid OP2.out.ints
            obtain ⟨y0, hy0⟩ : ∃ x, Dd V (cs rule) t = x := ⟨_, rfl⟩
            have hy1 := dd_1000 OK.out (rule := rule) (i := t) (by omega)
            rw [hy0] at hy1
            have hcx := OD2.out.cell (zr_at (dds_at (V := V) (c := cs rule) (i := o) (by omega)))
            have hcy := OD2.out.cell (zr_at (dds_at (V := V) (c := cs rule) (i := t) (by omega)))
            rw [hx0] at hcx
            rw [hy0] at hcy
            have hcu := cs_ok rule k (by omega)
            have CC := Lib.hid (fun W => CP.out k W (by omega))
            obtain ⟨cn, hcn⟩ : ∃ x, cs rule (k + 1) = x := ⟨_, rfl⟩
            rw [hcn] at CC hcu
            obtain ⟨x, hx⟩ : ∃ z : Int, (x0 : Int) = z := ⟨_, rfl⟩
            obtain ⟨y, hy⟩ : ∃ z : Int, (y0 : Int) = z := ⟨_, rfl⟩
            obtain ⟨ck, hck⟩ : ∃ z : Int, (cn : Int) = z := ⟨_, rfl⟩
            have OKE := Lib.hid (show rule ≠ 2 → (okT V rule q o k t ↔ y + ck = x) from fun hr => by
              unfold okT
              rw [if_neg hr, hy0, hcn, hx0]
              omega)
            rw [hx] at hcx
            rw [hy] at hcy
            rw [hck] at CC
            have HCX := Lib.hid hcx
            have HCY := Lib.hid hcy
            have ew1 : IntKind.i64.wrap ((k : Int) + 1) = (k : Int) + 1 := IntWalk.i64_in _ (by omega)
            have ew2 : IntKind.i64.wrap (y + ck) = y + ck := IntWalk.i64_in _ (by omega)
            have hgb : gd < wr.heap.size := (OD2.out.block gd rfl).2
            have t0 : (0 : Int) ≤ (t : Int) := by omega
            have t1 : (t : Int) < (n : Int) := by omega
            have NXT := Lib.hid (fun h3 : okT V rule q o k t => nxt_of HT.out h3 NO.out)
            have NNO := Lib.hid (show ¬ okT V rule q o k t → ∀ i x, i < k + 1 → (trs V o)[i]? = some x → ¬ okT V rule q o i x from fun hn i x hi hx2 => by
              by_cases e : i = k
              · subst e
                rw [HT.out] at hx2
                injection hx2 with hx2
                subst hx2
                exact hn
              · exact NO.out i x (by omega) hx2)
            obtain ⟨wb, hwb⟩ : ∃ X, wr = X := ⟨_, rfl⟩
            rw [hwb] at BL BW TIB hct OP2 OD2 VV IP HCX HCY hgb
            rw [hwb]
            clear hwb hzi ht hcx hcy hx hy hck hcn hy0 hcu NO
            by_cases r2 : rule = 2
            · have RC := Lib.hid (show (okT V rule q o k t ↔ Rch V (q ++ [o]) t) from by unfold okT; rw [if_pos r2])
              have d2 : decide ((rule : Int) = 2) = true := decide_eq_true (by omega)
              have d3 : ((rule : Int) == 2) = true := by rw [beq_iff_eq]; omega
              have d4 : ((rule : Int) != 2) = false := by simp only [bne, d3]; rfl
              clear r2
              by_cases hin : t ∈ q ++ [o]
              · have CT := Lib.hid (fun W (hW : Ints .i64 W (some ⟨gp, 0, none⟩) (u + 1) pc (zr (q ++ [o]))) => contains_ok (some ⟨gp, 0, none⟩) (u + 1) pc (q ++ [o]) t W hW)
                rw [decide_eq_true hin] at CT
                have NK := Lib.hid (NNO.out (fun h => (RC.out.1 h).out hin))
                clear hin
                go_wp2_with fail
                refine wp_region_noPanic ?_
                refine wp_region_R (inFirst (fun W => Below wb.heap.size wb W ∧ W.cell? ⟨gd, o, none⟩ = some (.int .i64 x) ∧ W.cell? ⟨gd, t, none⟩ = some (.int .i64 y)) 36) (by kernel_rfl) ?_
                have SS := Lib.hid (fun (W : World) (hW : Below wb.heap.size wb W) => (show Below wb.heap.size wb W ∧ W.cell? ⟨gd, o, none⟩ = some (.int .i64 x) ∧ W.cell? ⟨gd, t, none⟩ = some (.int .i64 y) from ⟨hW, (hW.cell (p := ⟨gd, o, none⟩) hgb).trans HCX.out, (hW.cell (p := ⟨gd, t, none⟩) hgb).trans HCY.out⟩))
                have hS := SS.out wb.drew ⟨rfl, rfl, rfl, Nat.le_refl _, fun _ _ => rfl⟩
                refine anyR_take (i := 0) (.int .i64 (rule : Int)) rfl (by kernel_rfl) (by kernel_rfl) (by kernel_rfl) (by kernel_rfl) (fun _ _ _ h => h) (by assumption) ⟨by rfl, ?_⟩ ?_
                · intro W hW
                  go_simp
                try simp only [Act.put, List.setIfInBounds_toArray, List.set_cons_zero, List.set_cons_succ, List.getElem_toArray, List.getElem_cons_zero, List.getElem_cons_succ]
                refine anyR_take (i := 1) (.bool true) rfl (by kernel_rfl) (by kernel_rfl) (by kernel_rfl) (by kernel_rfl) (fun _ _ _ h => h) (by assumption) ⟨by rfl, ?_⟩ ?_
                · intro W hW
                  go_simp
                try simp only [Act.put, List.setIfInBounds_toArray, List.set_cons_zero, List.set_cons_succ, List.getElem_toArray, List.getElem_cons_zero, List.getElem_cons_succ]
                refine anyR_take (i := 2) (.bool true) rfl (by kernel_rfl) (by kernel_rfl) (by kernel_rfl) (by kernel_rfl) (fun _ _ _ h => h) (by assumption) ⟨by rfl, ?_⟩ ?_
                · intro W hW
                  go_simp
                try simp only [Act.put, List.setIfInBounds_toArray, List.set_cons_zero, List.set_cons_succ, List.getElem_toArray, List.getElem_cons_zero, List.getElem_cons_succ]
                refine anyR_take (i := 3) (.slice (some ⟨gp, 0, none⟩) (u + 1) pc) rfl (by kernel_rfl) (by kernel_rfl) (by kernel_rfl) (by kernel_rfl) (fun _ _ _ h => h) (by assumption) ⟨by rfl, ?_⟩ ?_
                · intro W hW
                  go_simp
                try simp only [Act.put, List.setIfInBounds_toArray, List.set_cons_zero, List.set_cons_succ, List.getElem_toArray, List.getElem_cons_zero, List.getElem_cons_succ]
                refine anyR_take (i := 4) (.int .i64 ((t : Nat) : Int)) rfl (by kernel_rfl) (by kernel_rfl) (by kernel_rfl) (by kernel_rfl) (fun _ _ _ h => h) (by assumption) ⟨by rfl, ?_⟩ ?_
                · intro W hW
                  go_simp
                try simp only [Act.put, List.setIfInBounds_toArray, List.set_cons_zero, List.set_cons_succ, List.getElem_toArray, List.getElem_cons_zero, List.getElem_cons_succ]
                refine anyR_one (i := 5) (by kernel_rfl) rfl ?_
                intro K hK
                go_simp
                refine (CT.out _ (IP.out.below hS.1)).mono ?_
                rintro e w9 ⟨rfl, rfl⟩
                refine hK.out _ _ (fun _ => hS) ?_
                clear hK K
                try simp only [Act.put, List.setIfInBounds_toArray, List.set_cons_zero, List.set_cons_succ, List.getElem_toArray, List.getElem_cons_zero, List.getElem_cons_succ]
                refine anyR_take (i := 6) (.bool false) rfl (by kernel_rfl) (by kernel_rfl) (by kernel_rfl) (by kernel_rfl) (fun _ _ _ h => h) (by assumption) ⟨by rfl, ?_⟩ ?_
                · intro W hW
                  go_simp
                try simp only [Act.put, List.setIfInBounds_toArray, List.set_cons_zero, List.set_cons_succ, List.getElem_toArray, List.getElem_cons_zero, List.getElem_cons_succ]
                refine anyR_take (i := 7) (.bool false) rfl (by kernel_rfl) (by kernel_rfl) (by kernel_rfl) (by kernel_rfl) (fun _ _ _ h => h) (by assumption) ⟨by rfl, ?_⟩ ?_
                · intro W hW
                  go_simp
                try simp only [Act.put, List.setIfInBounds_toArray, List.set_cons_zero, List.set_cons_succ, List.getElem_toArray, List.getElem_cons_zero, List.getElem_cons_succ]
                refine anyR_take (i := 8) (.bool false) rfl (by kernel_rfl) (by kernel_rfl) (by kernel_rfl) (by kernel_rfl) (fun _ _ _ h => h) (by assumption) ⟨by rfl, ?_⟩ ?_
                · intro W hW
                  go_simp
                try simp only [Act.put, List.setIfInBounds_toArray, List.set_cons_zero, List.set_cons_succ, List.getElem_toArray, List.getElem_cons_zero, List.getElem_cons_succ]
                refine anyR_skip (i := 9) rfl (by kernel_rfl) (by kernel_rfl) (by kernel_rfl) (by kernel_rfl) (fun _ _ _ h => h) (by assumption) (by rfl) ?_
                try simp only [Act.put, List.setIfInBounds_toArray, List.set_cons_zero, List.set_cons_succ, List.getElem_toArray, List.getElem_cons_zero, List.getElem_cons_succ]
                refine anyR_skip (i := 10) rfl (by kernel_rfl) (by kernel_rfl) (by kernel_rfl) (by kernel_rfl) (fun _ _ _ h => h) (by assumption) (by rfl) ?_
                try simp only [Act.put, List.setIfInBounds_toArray, List.set_cons_zero, List.set_cons_succ, List.getElem_toArray, List.getElem_cons_zero, List.getElem_cons_succ]
                refine anyR_skip (i := 11) rfl (by kernel_rfl) (by kernel_rfl) (by kernel_rfl) (by kernel_rfl) (fun _ _ _ h => h) (by assumption) (by rfl) ?_
                try simp only [Act.put, List.setIfInBounds_toArray, List.set_cons_zero, List.set_cons_succ, List.getElem_toArray, List.getElem_cons_zero, List.getElem_cons_succ]
                refine anyR_skip (i := 12) rfl (by kernel_rfl) (by kernel_rfl) (by kernel_rfl) (by kernel_rfl) (fun _ _ _ h => h) (by assumption) (by rfl) ?_
                try simp only [Act.put, List.setIfInBounds_toArray, List.set_cons_zero, List.set_cons_succ, List.getElem_toArray, List.getElem_cons_zero, List.getElem_cons_succ]
                refine anyR_skip (i := 13) rfl (by kernel_rfl) (by kernel_rfl) (by kernel_rfl) (by kernel_rfl) (fun _ _ _ h => h) (by assumption) (by rfl) ?_
                try simp only [Act.put, List.setIfInBounds_toArray, List.set_cons_zero, List.set_cons_succ, List.getElem_toArray, List.getElem_cons_zero, List.getElem_cons_succ]
                refine anyR_skip (i := 14) rfl (by kernel_rfl) (by kernel_rfl) (by kernel_rfl) (by kernel_rfl) (fun _ _ _ h => h) (by assumption) (by rfl) ?_
                try simp only [Act.put, List.setIfInBounds_toArray, List.set_cons_zero, List.set_cons_succ, List.getElem_toArray, List.getElem_cons_zero, List.getElem_cons_succ]
                refine anyR_take (i := 15) (.bool false) rfl (by kernel_rfl) (by kernel_rfl) (by kernel_rfl) (by kernel_rfl) (fun _ _ _ h => h) (by assumption) ⟨by rfl, ?_⟩ ?_
                · intro W hW
                  go_simp
                try simp only [Act.put, List.setIfInBounds_toArray, List.set_cons_zero, List.set_cons_succ, List.getElem_toArray, List.getElem_cons_zero, List.getElem_cons_succ]
                refine anyR_take (i := 16) (.bool false) rfl (by kernel_rfl) (by kernel_rfl) (by kernel_rfl) (by kernel_rfl) (fun _ _ _ h => h) (by assumption) ⟨by rfl, ?_⟩ ?_
                · intro W hW
                  go_simp
                try simp only [Act.put, List.setIfInBounds_toArray, List.set_cons_zero, List.set_cons_succ, List.getElem_toArray, List.getElem_cons_zero, List.getElem_cons_succ]
                refine anyR_take (i := 17) (.int .i64 (rule : Int)) rfl (by kernel_rfl) (by kernel_rfl) (by kernel_rfl) (by kernel_rfl) (fun _ _ _ h => h) (by assumption) ⟨by rfl, ?_⟩ ?_
                · intro W hW
                  go_simp
                try simp only [Act.put, List.setIfInBounds_toArray, List.set_cons_zero, List.set_cons_succ, List.getElem_toArray, List.getElem_cons_zero, List.getElem_cons_succ]
                refine anyR_take (i := 18) (.bool false) rfl (by kernel_rfl) (by kernel_rfl) (by kernel_rfl) (by kernel_rfl) (fun _ _ _ h => h) (by assumption) ⟨by rfl, ?_⟩ ?_
                · intro W hW
                  go_simp
                try simp only [Act.put, List.setIfInBounds_toArray, List.set_cons_zero, List.set_cons_succ, List.getElem_toArray, List.getElem_cons_zero, List.getElem_cons_succ]
                refine anyR_take (i := 19) (.bool false) rfl (by kernel_rfl) (by kernel_rfl) (by kernel_rfl) (by kernel_rfl) (fun _ _ _ h => h) (by assumption) ⟨by rfl, ?_⟩ ?_
                · intro W hW
                  go_simp
                try simp only [Act.put, List.setIfInBounds_toArray, List.set_cons_zero, List.set_cons_succ, List.getElem_toArray, List.getElem_cons_zero, List.getElem_cons_succ]
                refine anyR_skip (i := 20) rfl (by kernel_rfl) (by kernel_rfl) (by kernel_rfl) (by kernel_rfl) (fun _ _ _ h => h) (by assumption) (by rfl) ?_
                try simp only [Act.put, List.setIfInBounds_toArray, List.set_cons_zero, List.set_cons_succ, List.getElem_toArray, List.getElem_cons_zero, List.getElem_cons_succ]
                refine anyR_skip (i := 21) rfl (by kernel_rfl) (by kernel_rfl) (by kernel_rfl) (by kernel_rfl) (fun _ _ _ h => h) (by assumption) (by rfl) ?_
                try simp only [Act.put, List.setIfInBounds_toArray, List.set_cons_zero, List.set_cons_succ, List.getElem_toArray, List.getElem_cons_zero, List.getElem_cons_succ]
                refine anyR_skip (i := 22) rfl (by kernel_rfl) (by kernel_rfl) (by kernel_rfl) (by kernel_rfl) (fun _ _ _ h => h) (by assumption) (by rfl) ?_
                try simp only [Act.put, List.setIfInBounds_toArray, List.set_cons_zero, List.set_cons_succ, List.getElem_toArray, List.getElem_cons_zero, List.getElem_cons_succ]
                refine anyR_skip (i := 23) rfl (by kernel_rfl) (by kernel_rfl) (by kernel_rfl) (by kernel_rfl) (fun _ _ _ h => h) (by assumption) (by rfl) ?_
                try simp only [Act.put, List.setIfInBounds_toArray, List.set_cons_zero, List.set_cons_succ, List.getElem_toArray, List.getElem_cons_zero, List.getElem_cons_succ]
                refine anyR_skip (i := 24) rfl (by kernel_rfl) (by kernel_rfl) (by kernel_rfl) (by kernel_rfl) (fun _ _ _ h => h) (by assumption) (by rfl) ?_
                try simp only [Act.put, List.setIfInBounds_toArray, List.set_cons_zero, List.set_cons_succ, List.getElem_toArray, List.getElem_cons_zero, List.getElem_cons_succ]
                refine anyR_skip (i := 25) rfl (by kernel_rfl) (by kernel_rfl) (by kernel_rfl) (by kernel_rfl) (fun _ _ _ h => h) (by assumption) (by rfl) ?_
                try simp only [Act.put, List.setIfInBounds_toArray, List.set_cons_zero, List.set_cons_succ, List.getElem_toArray, List.getElem_cons_zero, List.getElem_cons_succ]
                refine anyR_skip (i := 26) rfl (by kernel_rfl) (by kernel_rfl) (by kernel_rfl) (by kernel_rfl) (fun _ _ _ h => h) (by assumption) (by rfl) ?_
                try simp only [Act.put, List.setIfInBounds_toArray, List.set_cons_zero, List.set_cons_succ, List.getElem_toArray, List.getElem_cons_zero, List.getElem_cons_succ]
                refine anyR_skip (i := 27) rfl (by kernel_rfl) (by kernel_rfl) (by kernel_rfl) (by kernel_rfl) (fun _ _ _ h => h) (by assumption) (by rfl) ?_
                try simp only [Act.put, List.setIfInBounds_toArray, List.set_cons_zero, List.set_cons_succ, List.getElem_toArray, List.getElem_cons_zero, List.getElem_cons_succ]
                refine anyR_skip (i := 28) rfl (by kernel_rfl) (by kernel_rfl) (by kernel_rfl) (by kernel_rfl) (fun _ _ _ h => h) (by assumption) (by rfl) ?_
                try simp only [Act.put, List.setIfInBounds_toArray, List.set_cons_zero, List.set_cons_succ, List.getElem_toArray, List.getElem_cons_zero, List.getElem_cons_succ]
                refine anyR_skip (i := 29) rfl (by kernel_rfl) (by kernel_rfl) (by kernel_rfl) (by kernel_rfl) (fun _ _ _ h => h) (by assumption) (by rfl) ?_
                try simp only [Act.put, List.setIfInBounds_toArray, List.set_cons_zero, List.set_cons_succ, List.getElem_toArray, List.getElem_cons_zero, List.getElem_cons_succ]
                refine anyR_skip (i := 30) rfl (by kernel_rfl) (by kernel_rfl) (by kernel_rfl) (by kernel_rfl) (fun _ _ _ h => h) (by assumption) (by rfl) ?_
                try simp only [Act.put, List.setIfInBounds_toArray, List.set_cons_zero, List.set_cons_succ, List.getElem_toArray, List.getElem_cons_zero, List.getElem_cons_succ]
                refine anyR_skip (i := 31) rfl (by kernel_rfl) (by kernel_rfl) (by kernel_rfl) (by kernel_rfl) (fun _ _ _ h => h) (by assumption) (by rfl) ?_
                try simp only [Act.put, List.setIfInBounds_toArray, List.set_cons_zero, List.set_cons_succ, List.getElem_toArray, List.getElem_cons_zero, List.getElem_cons_succ]
                refine anyR_skip (i := 32) rfl (by kernel_rfl) (by kernel_rfl) (by kernel_rfl) (by kernel_rfl) (fun _ _ _ h => h) (by assumption) (by rfl) ?_
                try simp only [Act.put, List.setIfInBounds_toArray, List.set_cons_zero, List.set_cons_succ, List.getElem_toArray, List.getElem_cons_zero, List.getElem_cons_succ]
                refine anyR_skip (i := 33) rfl (by kernel_rfl) (by kernel_rfl) (by kernel_rfl) (by kernel_rfl) (fun _ _ _ h => h) (by assumption) (by rfl) ?_
                try simp only [Act.put, List.setIfInBounds_toArray, List.set_cons_zero, List.set_cons_succ, List.getElem_toArray, List.getElem_cons_zero, List.getElem_cons_succ]
                refine anyR_take (i := 34) (.bool false) rfl (by kernel_rfl) (by kernel_rfl) (by kernel_rfl) (by kernel_rfl) (fun _ _ _ h => h) (by assumption) ⟨by rfl, ?_⟩ ?_
                · intro W hW
                  go_simp
                try simp only [Act.put, List.setIfInBounds_toArray, List.set_cons_zero, List.set_cons_succ, List.getElem_toArray, List.getElem_cons_zero, List.getElem_cons_succ]
                refine anyR_take (i := 35) (.bool false) rfl (by kernel_rfl) (by kernel_rfl) (by kernel_rfl) (by kernel_rfl) (fun _ _ _ h => h) (by assumption) ⟨by rfl, ?_⟩ ?_
                · intro W hW
                  go_simp
                try simp only [Act.put, List.setIfInBounds_toArray, List.set_cons_zero, List.set_cons_succ, List.getElem_toArray, List.getElem_cons_zero, List.getElem_cons_succ]
                refine anyR_done (by kernel_rfl) ?_ _
                refine NoPanic.normal ?_
                have BU := Lib.hid hS.1
                clear hS SS
                go_wp2_with fail
                go_roundw
                case rel => exact ⟨k + 1, by omega, rfl, by go_num, NK.out, bel_trans BL.out BU.out⟩
                case measure => simp [intOf]; omega
              · have CT := Lib.hid (fun W (hW : Ints .i64 W (some ⟨gp, 0, none⟩) (u + 1) pc (zr (q ++ [o]))) => contains_ok (some ⟨gp, 0, none⟩) (u + 1) pc (q ++ [o]) t W hW)
                rw [decide_eq_false hin] at CT
                have EF := Lib.hid (fun W (hW : VoV W (some ⟨b, off, none⟩) n c V) (hW2 : Ints .i64 W (some ⟨gp, 0, none⟩) (u + 1) pc (zr (q ++ [o]))) => endsFrom_ok V OK.out t (by omega) (q ++ [o]) lp (some ⟨b, off, none⟩) n c (some ⟨gp, 0, none⟩) (u + 1) pc W hW hW2)
                clear hin
                by_cases hrt : Rch V (q ++ [o]) t
                · have RT := Lib.hid hrt
                  have TK := Lib.hid (RC.out.2 hrt)
                  clear hrt
                  go_wp2_with fail
                  refine wp_region_noPanic ?_
                  refine wp_region_R (inFirst (fun W => Below wb.heap.size wb W ∧ W.cell? ⟨gd, o, none⟩ = some (.int .i64 x) ∧ W.cell? ⟨gd, t, none⟩ = some (.int .i64 y)) 36) (by kernel_rfl) ?_
                  have SS := Lib.hid (fun (W : World) (hW : Below wb.heap.size wb W) => (show Below wb.heap.size wb W ∧ W.cell? ⟨gd, o, none⟩ = some (.int .i64 x) ∧ W.cell? ⟨gd, t, none⟩ = some (.int .i64 y) from ⟨hW, (hW.cell (p := ⟨gd, o, none⟩) hgb).trans HCX.out, (hW.cell (p := ⟨gd, t, none⟩) hgb).trans HCY.out⟩))
                  have hS := SS.out wb.drew ⟨rfl, rfl, rfl, Nat.le_refl _, fun _ _ => rfl⟩
                  refine anyR_take (i := 0) (.int .i64 (rule : Int)) rfl (by kernel_rfl) (by kernel_rfl) (by kernel_rfl) (by kernel_rfl) (fun _ _ _ h => h) (by assumption) ⟨by rfl, ?_⟩ ?_
                  · intro W hW
                    go_simp
                  try simp only [Act.put, List.setIfInBounds_toArray, List.set_cons_zero, List.set_cons_succ, List.getElem_toArray, List.getElem_cons_zero, List.getElem_cons_succ]
                  refine anyR_take (i := 1) (.bool true) rfl (by kernel_rfl) (by kernel_rfl) (by kernel_rfl) (by kernel_rfl) (fun _ _ _ h => h) (by assumption) ⟨by rfl, ?_⟩ ?_
                  · intro W hW
                    go_simp
                  try simp only [Act.put, List.setIfInBounds_toArray, List.set_cons_zero, List.set_cons_succ, List.getElem_toArray, List.getElem_cons_zero, List.getElem_cons_succ]
                  refine anyR_take (i := 2) (.bool true) rfl (by kernel_rfl) (by kernel_rfl) (by kernel_rfl) (by kernel_rfl) (fun _ _ _ h => h) (by assumption) ⟨by rfl, ?_⟩ ?_
                  · intro W hW
                    go_simp
                  try simp only [Act.put, List.setIfInBounds_toArray, List.set_cons_zero, List.set_cons_succ, List.getElem_toArray, List.getElem_cons_zero, List.getElem_cons_succ]
                  refine anyR_take (i := 3) (.slice (some ⟨gp, 0, none⟩) (u + 1) pc) rfl (by kernel_rfl) (by kernel_rfl) (by kernel_rfl) (by kernel_rfl) (fun _ _ _ h => h) (by assumption) ⟨by rfl, ?_⟩ ?_
                  · intro W hW
                    go_simp
                  try simp only [Act.put, List.setIfInBounds_toArray, List.set_cons_zero, List.set_cons_succ, List.getElem_toArray, List.getElem_cons_zero, List.getElem_cons_succ]
                  refine anyR_take (i := 4) (.int .i64 ((t : Nat) : Int)) rfl (by kernel_rfl) (by kernel_rfl) (by kernel_rfl) (by kernel_rfl) (fun _ _ _ h => h) (by assumption) ⟨by rfl, ?_⟩ ?_
                  · intro W hW
                    go_simp
                  try simp only [Act.put, List.setIfInBounds_toArray, List.set_cons_zero, List.set_cons_succ, List.getElem_toArray, List.getElem_cons_zero, List.getElem_cons_succ]
                  refine anyR_one (i := 5) (by kernel_rfl) rfl ?_
                  intro K hK
                  go_simp
                  refine (CT.out _ (IP.out.below hS.1)).mono ?_
                  rintro e w9 ⟨rfl, rfl⟩
                  refine hK.out _ _ (fun _ => hS) ?_
                  clear hK K
                  try simp only [Act.put, List.setIfInBounds_toArray, List.set_cons_zero, List.set_cons_succ, List.getElem_toArray, List.getElem_cons_zero, List.getElem_cons_succ]
                  refine anyR_take (i := 6) (.bool true) rfl (by kernel_rfl) (by kernel_rfl) (by kernel_rfl) (by kernel_rfl) (fun _ _ _ h => h) (by assumption) ⟨by rfl, ?_⟩ ?_
                  · intro W hW
                    go_simp
                  try simp only [Act.put, List.setIfInBounds_toArray, List.set_cons_zero, List.set_cons_succ, List.getElem_toArray, List.getElem_cons_zero, List.getElem_cons_succ]
                  refine anyR_take (i := 7) (.bool true) rfl (by kernel_rfl) (by kernel_rfl) (by kernel_rfl) (by kernel_rfl) (fun _ _ _ h => h) (by assumption) ⟨by rfl, ?_⟩ ?_
                  · intro W hW
                    go_simp
                  try simp only [Act.put, List.setIfInBounds_toArray, List.set_cons_zero, List.set_cons_succ, List.getElem_toArray, List.getElem_cons_zero, List.getElem_cons_succ]
                  refine anyR_take (i := 8) (.bool true) rfl (by kernel_rfl) (by kernel_rfl) (by kernel_rfl) (by kernel_rfl) (fun _ _ _ h => h) (by assumption) ⟨by rfl, ?_⟩ ?_
                  · intro W hW
                    go_simp
                  try simp only [Act.put, List.setIfInBounds_toArray, List.set_cons_zero, List.set_cons_succ, List.getElem_toArray, List.getElem_cons_zero, List.getElem_cons_succ]
                  refine anyR_take (i := 9) (.slice (some ⟨b, off, none⟩) n c) rfl (by kernel_rfl) (by kernel_rfl) (by kernel_rfl) (by kernel_rfl) (fun _ _ _ h => h) (by assumption) ⟨by rfl, ?_⟩ ?_
                  · intro W hW
                    go_simp
                  try simp only [Act.put, List.setIfInBounds_toArray, List.set_cons_zero, List.set_cons_succ, List.getElem_toArray, List.getElem_cons_zero, List.getElem_cons_succ]
                  refine anyR_take (i := 10) (.int .i64 ((t : Nat) : Int)) rfl (by kernel_rfl) (by kernel_rfl) (by kernel_rfl) (by kernel_rfl) (fun _ _ _ h => h) (by assumption) ⟨by rfl, ?_⟩ ?_
                  · intro W hW
                    go_simp
                  try simp only [Act.put, List.setIfInBounds_toArray, List.set_cons_zero, List.set_cons_succ, List.getElem_toArray, List.getElem_cons_zero, List.getElem_cons_succ]
                  refine anyR_take (i := 11) (.slice (some ⟨gp, 0, none⟩) (u + 1) pc) rfl (by kernel_rfl) (by kernel_rfl) (by kernel_rfl) (by kernel_rfl) (fun _ _ _ h => h) (by assumption) ⟨by rfl, ?_⟩ ?_
                  · intro W hW
                    go_simp
                  try simp only [Act.put, List.setIfInBounds_toArray, List.set_cons_zero, List.set_cons_succ, List.getElem_toArray, List.getElem_cons_zero, List.getElem_cons_succ]
                  refine anyR_one (i := 12) (by kernel_rfl) rfl ?_
                  intro K hK
                  go_simp
                  refine (EF.out _ (VV.out.below hS.1) (IP.out.below hS.1)).mono ?_
                  rintro e w9 ⟨E1, L1, ec, rfl, hL, hL12, b9⟩
                  have dL := decide_eq_true (show (0 : Int) < (L1 : Int) by have h0 : L1 ≠ 0 := fun e => hL.1 e RT.out; omega)
                  have nL : 0 < L1 := by have h0 : L1 ≠ 0 := fun e => hL.1 e RT.out; omega
                  have hT := SS.out w9 (bel_trans hS.1 b9)
                  refine hK.out _ _ (fun _ => hT) ?_
                  clear hS b9 hL
                  have hS := hT
                  clear hT
                  clear hK K
                  try simp only [Act.put, List.setIfInBounds_toArray, List.set_cons_zero, List.set_cons_succ, List.getElem_toArray, List.getElem_cons_zero, List.getElem_cons_succ]
                  refine anyR_take (i := 13) (.int .i64 (L1 : Nat)) rfl (by kernel_rfl) (by kernel_rfl) (by kernel_rfl) (by kernel_rfl) (fun _ _ _ h => h) (by assumption) ⟨by rfl, ?_⟩ ?_
                  · intro W hW
                    go_simp
                  try simp only [Act.put, List.setIfInBounds_toArray, List.set_cons_zero, List.set_cons_succ, List.getElem_toArray, List.getElem_cons_zero, List.getElem_cons_succ]
                  refine anyR_take (i := 14) (.bool true) rfl (by kernel_rfl) (by kernel_rfl) (by kernel_rfl) (by kernel_rfl) (fun _ _ _ h => h) (by assumption) ⟨by rfl, ?_⟩ ?_
                  · intro W hW
                    go_simp
                  try simp only [Act.put, List.setIfInBounds_toArray, List.set_cons_zero, List.set_cons_succ, List.getElem_toArray, List.getElem_cons_zero, List.getElem_cons_succ]
                  refine anyR_take (i := 15) (.bool true) rfl (by kernel_rfl) (by kernel_rfl) (by kernel_rfl) (by kernel_rfl) (fun _ _ _ h => h) (by assumption) ⟨by rfl, ?_⟩ ?_
                  · intro W hW
                    go_simp
                  try simp only [Act.put, List.setIfInBounds_toArray, List.set_cons_zero, List.set_cons_succ, List.getElem_toArray, List.getElem_cons_zero, List.getElem_cons_succ]
                  refine anyR_take (i := 16) (.bool true) rfl (by kernel_rfl) (by kernel_rfl) (by kernel_rfl) (by kernel_rfl) (fun _ _ _ h => h) (by assumption) ⟨by rfl, ?_⟩ ?_
                  · intro W hW
                    go_simp
                  try simp only [Act.put, List.setIfInBounds_toArray, List.set_cons_zero, List.set_cons_succ, List.getElem_toArray, List.getElem_cons_zero, List.getElem_cons_succ]
                  refine anyR_skip (i := 17) rfl (by kernel_rfl) (by kernel_rfl) (by kernel_rfl) (by kernel_rfl) (fun _ _ _ h => h) (by assumption) (by rfl) ?_
                  try simp only [Act.put, List.setIfInBounds_toArray, List.set_cons_zero, List.set_cons_succ, List.getElem_toArray, List.getElem_cons_zero, List.getElem_cons_succ]
                  refine anyR_skip (i := 18) rfl (by kernel_rfl) (by kernel_rfl) (by kernel_rfl) (by kernel_rfl) (fun _ _ _ h => h) (by assumption) (by rfl) ?_
                  try simp only [Act.put, List.setIfInBounds_toArray, List.set_cons_zero, List.set_cons_succ, List.getElem_toArray, List.getElem_cons_zero, List.getElem_cons_succ]
                  refine anyR_skip (i := 19) rfl (by kernel_rfl) (by kernel_rfl) (by kernel_rfl) (by kernel_rfl) (fun _ _ _ h => h) (by assumption) (by rfl) ?_
                  try simp only [Act.put, List.setIfInBounds_toArray, List.set_cons_zero, List.set_cons_succ, List.getElem_toArray, List.getElem_cons_zero, List.getElem_cons_succ]
                  refine anyR_skip (i := 20) rfl (by kernel_rfl) (by kernel_rfl) (by kernel_rfl) (by kernel_rfl) (fun _ _ _ h => h) (by assumption) (by rfl) ?_
                  try simp only [Act.put, List.setIfInBounds_toArray, List.set_cons_zero, List.set_cons_succ, List.getElem_toArray, List.getElem_cons_zero, List.getElem_cons_succ]
                  refine anyR_skip (i := 21) rfl (by kernel_rfl) (by kernel_rfl) (by kernel_rfl) (by kernel_rfl) (fun _ _ _ h => h) (by assumption) (by rfl) ?_
                  try simp only [Act.put, List.setIfInBounds_toArray, List.set_cons_zero, List.set_cons_succ, List.getElem_toArray, List.getElem_cons_zero, List.getElem_cons_succ]
                  refine anyR_skip (i := 22) rfl (by kernel_rfl) (by kernel_rfl) (by kernel_rfl) (by kernel_rfl) (fun _ _ _ h => h) (by assumption) (by rfl) ?_
                  try simp only [Act.put, List.setIfInBounds_toArray, List.set_cons_zero, List.set_cons_succ, List.getElem_toArray, List.getElem_cons_zero, List.getElem_cons_succ]
                  refine anyR_skip (i := 23) rfl (by kernel_rfl) (by kernel_rfl) (by kernel_rfl) (by kernel_rfl) (fun _ _ _ h => h) (by assumption) (by rfl) ?_
                  try simp only [Act.put, List.setIfInBounds_toArray, List.set_cons_zero, List.set_cons_succ, List.getElem_toArray, List.getElem_cons_zero, List.getElem_cons_succ]
                  refine anyR_skip (i := 24) rfl (by kernel_rfl) (by kernel_rfl) (by kernel_rfl) (by kernel_rfl) (fun _ _ _ h => h) (by assumption) (by rfl) ?_
                  try simp only [Act.put, List.setIfInBounds_toArray, List.set_cons_zero, List.set_cons_succ, List.getElem_toArray, List.getElem_cons_zero, List.getElem_cons_succ]
                  refine anyR_skip (i := 25) rfl (by kernel_rfl) (by kernel_rfl) (by kernel_rfl) (by kernel_rfl) (fun _ _ _ h => h) (by assumption) (by rfl) ?_
                  try simp only [Act.put, List.setIfInBounds_toArray, List.set_cons_zero, List.set_cons_succ, List.getElem_toArray, List.getElem_cons_zero, List.getElem_cons_succ]
                  refine anyR_skip (i := 26) rfl (by kernel_rfl) (by kernel_rfl) (by kernel_rfl) (by kernel_rfl) (fun _ _ _ h => h) (by assumption) (by rfl) ?_
                  try simp only [Act.put, List.setIfInBounds_toArray, List.set_cons_zero, List.set_cons_succ, List.getElem_toArray, List.getElem_cons_zero, List.getElem_cons_succ]
                  refine anyR_skip (i := 27) rfl (by kernel_rfl) (by kernel_rfl) (by kernel_rfl) (by kernel_rfl) (fun _ _ _ h => h) (by assumption) (by rfl) ?_
                  try simp only [Act.put, List.setIfInBounds_toArray, List.set_cons_zero, List.set_cons_succ, List.getElem_toArray, List.getElem_cons_zero, List.getElem_cons_succ]
                  refine anyR_skip (i := 28) rfl (by kernel_rfl) (by kernel_rfl) (by kernel_rfl) (by kernel_rfl) (fun _ _ _ h => h) (by assumption) (by rfl) ?_
                  try simp only [Act.put, List.setIfInBounds_toArray, List.set_cons_zero, List.set_cons_succ, List.getElem_toArray, List.getElem_cons_zero, List.getElem_cons_succ]
                  refine anyR_skip (i := 29) rfl (by kernel_rfl) (by kernel_rfl) (by kernel_rfl) (by kernel_rfl) (fun _ _ _ h => h) (by assumption) (by rfl) ?_
                  try simp only [Act.put, List.setIfInBounds_toArray, List.set_cons_zero, List.set_cons_succ, List.getElem_toArray, List.getElem_cons_zero, List.getElem_cons_succ]
                  refine anyR_skip (i := 30) rfl (by kernel_rfl) (by kernel_rfl) (by kernel_rfl) (by kernel_rfl) (fun _ _ _ h => h) (by assumption) (by rfl) ?_
                  try simp only [Act.put, List.setIfInBounds_toArray, List.set_cons_zero, List.set_cons_succ, List.getElem_toArray, List.getElem_cons_zero, List.getElem_cons_succ]
                  refine anyR_skip (i := 31) rfl (by kernel_rfl) (by kernel_rfl) (by kernel_rfl) (by kernel_rfl) (fun _ _ _ h => h) (by assumption) (by rfl) ?_
                  try simp only [Act.put, List.setIfInBounds_toArray, List.set_cons_zero, List.set_cons_succ, List.getElem_toArray, List.getElem_cons_zero, List.getElem_cons_succ]
                  refine anyR_skip (i := 32) rfl (by kernel_rfl) (by kernel_rfl) (by kernel_rfl) (by kernel_rfl) (fun _ _ _ h => h) (by assumption) (by rfl) ?_
                  try simp only [Act.put, List.setIfInBounds_toArray, List.set_cons_zero, List.set_cons_succ, List.getElem_toArray, List.getElem_cons_zero, List.getElem_cons_succ]
                  refine anyR_skip (i := 33) rfl (by kernel_rfl) (by kernel_rfl) (by kernel_rfl) (by kernel_rfl) (fun _ _ _ h => h) (by assumption) (by rfl) ?_
                  try simp only [Act.put, List.setIfInBounds_toArray, List.set_cons_zero, List.set_cons_succ, List.getElem_toArray, List.getElem_cons_zero, List.getElem_cons_succ]
                  refine anyR_skip (i := 34) rfl (by kernel_rfl) (by kernel_rfl) (by kernel_rfl) (by kernel_rfl) (fun _ _ _ h => h) (by assumption) (by rfl) ?_
                  try simp only [Act.put, List.setIfInBounds_toArray, List.set_cons_zero, List.set_cons_succ, List.getElem_toArray, List.getElem_cons_zero, List.getElem_cons_succ]
                  refine anyR_take (i := 35) (.bool true) rfl (by kernel_rfl) (by kernel_rfl) (by kernel_rfl) (by kernel_rfl) (fun _ _ _ h => h) (by assumption) ⟨by rfl, ?_⟩ ?_
                  · intro W hW
                    go_simp
                  try simp only [Act.put, List.setIfInBounds_toArray, List.set_cons_zero, List.set_cons_succ, List.getElem_toArray, List.getElem_cons_zero, List.getElem_cons_succ]
                  refine anyR_done (by kernel_rfl) ?_ _
                  refine NoPanic.normal ?_
                  have BU := Lib.hid hS.1
                  clear hS SS
                  have OP9 := Lib.hid (OP2.out.below BU.out)
                  have OD9 := Lib.hid (OD2.out.below BU.out)
                  have B9 := Lib.hid (bel_trans BW.out BU.out)
                  have sb9 := B9.out.size
                  go_wp2_with (at_builtin; refine app_int_at _ rfl _ _ rfl w.heap.size (some ⟨gp, 0, none⟩) (u + 1) pc _ rfl OP9.out (t : Int) (by omega) (by omega) rfl (by omega) sb9 ?_; intro A3 c3 w3 p1 p2 p3)
                  go_roundw
                  case rel =>
                    refine ⟨A3, u + 1, c3, q ++ [o], t, rfl, by simp; have := HU.out; omega, GG.out.step OK.out HBV.out HT.out TK.out, ?_, by rw [zr_app]; exact p1, OD9.out.kept p2 (own_ne OD9.out.1 OP9.out.1 (by decide)), B9.out.grown p2 B9.out.size (fun x hx => (OP9.out.block x hx).1)⟩
                    rw [← HB.out, show V.length - q.length = (V.length - (q ++ [o]).length) + 1 by rw [List.length_append, List.length_singleton]; omega, bpo_next HBV.out (NXT.out TK.out)]
                  case measure => have := HU.out; simp only [lenV_slice]; omega
                · have RT := Lib.hid hrt
                  have NK := Lib.hid (NNO.out (fun h => hrt (RC.out.1 h)))
                  clear hrt
                  go_wp2_with fail
                  refine wp_region_noPanic ?_
                  refine wp_region_R (inFirst (fun W => Below wb.heap.size wb W ∧ W.cell? ⟨gd, o, none⟩ = some (.int .i64 x) ∧ W.cell? ⟨gd, t, none⟩ = some (.int .i64 y)) 36) (by kernel_rfl) ?_
                  have SS := Lib.hid (fun (W : World) (hW : Below wb.heap.size wb W) => (show Below wb.heap.size wb W ∧ W.cell? ⟨gd, o, none⟩ = some (.int .i64 x) ∧ W.cell? ⟨gd, t, none⟩ = some (.int .i64 y) from ⟨hW, (hW.cell (p := ⟨gd, o, none⟩) hgb).trans HCX.out, (hW.cell (p := ⟨gd, t, none⟩) hgb).trans HCY.out⟩))
                  have hS := SS.out wb.drew ⟨rfl, rfl, rfl, Nat.le_refl _, fun _ _ => rfl⟩
                  refine anyR_take (i := 0) (.int .i64 (rule : Int)) rfl (by kernel_rfl) (by kernel_rfl) (by kernel_rfl) (by kernel_rfl) (fun _ _ _ h => h) (by assumption) ⟨by rfl, ?_⟩ ?_
                  · intro W hW
                    go_simp
                  try simp only [Act.put, List.setIfInBounds_toArray, List.set_cons_zero, List.set_cons_succ, List.getElem_toArray, List.getElem_cons_zero, List.getElem_cons_succ]
                  refine anyR_take (i := 1) (.bool true) rfl (by kernel_rfl) (by kernel_rfl) (by kernel_rfl) (by kernel_rfl) (fun _ _ _ h => h) (by assumption) ⟨by rfl, ?_⟩ ?_
                  · intro W hW
                    go_simp
                  try simp only [Act.put, List.setIfInBounds_toArray, List.set_cons_zero, List.set_cons_succ, List.getElem_toArray, List.getElem_cons_zero, List.getElem_cons_succ]
                  refine anyR_take (i := 2) (.bool true) rfl (by kernel_rfl) (by kernel_rfl) (by kernel_rfl) (by kernel_rfl) (fun _ _ _ h => h) (by assumption) ⟨by rfl, ?_⟩ ?_
                  · intro W hW
                    go_simp
                  try simp only [Act.put, List.setIfInBounds_toArray, List.set_cons_zero, List.set_cons_succ, List.getElem_toArray, List.getElem_cons_zero, List.getElem_cons_succ]
                  refine anyR_take (i := 3) (.slice (some ⟨gp, 0, none⟩) (u + 1) pc) rfl (by kernel_rfl) (by kernel_rfl) (by kernel_rfl) (by kernel_rfl) (fun _ _ _ h => h) (by assumption) ⟨by rfl, ?_⟩ ?_
                  · intro W hW
                    go_simp
                  try simp only [Act.put, List.setIfInBounds_toArray, List.set_cons_zero, List.set_cons_succ, List.getElem_toArray, List.getElem_cons_zero, List.getElem_cons_succ]
                  refine anyR_take (i := 4) (.int .i64 ((t : Nat) : Int)) rfl (by kernel_rfl) (by kernel_rfl) (by kernel_rfl) (by kernel_rfl) (fun _ _ _ h => h) (by assumption) ⟨by rfl, ?_⟩ ?_
                  · intro W hW
                    go_simp
                  try simp only [Act.put, List.setIfInBounds_toArray, List.set_cons_zero, List.set_cons_succ, List.getElem_toArray, List.getElem_cons_zero, List.getElem_cons_succ]
                  refine anyR_one (i := 5) (by kernel_rfl) rfl ?_
                  intro K hK
                  go_simp
                  refine (CT.out _ (IP.out.below hS.1)).mono ?_
                  rintro e w9 ⟨rfl, rfl⟩
                  refine hK.out _ _ (fun _ => hS) ?_
                  clear hK K
                  try simp only [Act.put, List.setIfInBounds_toArray, List.set_cons_zero, List.set_cons_succ, List.getElem_toArray, List.getElem_cons_zero, List.getElem_cons_succ]
                  refine anyR_take (i := 6) (.bool true) rfl (by kernel_rfl) (by kernel_rfl) (by kernel_rfl) (by kernel_rfl) (fun _ _ _ h => h) (by assumption) ⟨by rfl, ?_⟩ ?_
                  · intro W hW
                    go_simp
                  try simp only [Act.put, List.setIfInBounds_toArray, List.set_cons_zero, List.set_cons_succ, List.getElem_toArray, List.getElem_cons_zero, List.getElem_cons_succ]
                  refine anyR_take (i := 7) (.bool true) rfl (by kernel_rfl) (by kernel_rfl) (by kernel_rfl) (by kernel_rfl) (fun _ _ _ h => h) (by assumption) ⟨by rfl, ?_⟩ ?_
                  · intro W hW
                    go_simp
                  try simp only [Act.put, List.setIfInBounds_toArray, List.set_cons_zero, List.set_cons_succ, List.getElem_toArray, List.getElem_cons_zero, List.getElem_cons_succ]
                  refine anyR_take (i := 8) (.bool true) rfl (by kernel_rfl) (by kernel_rfl) (by kernel_rfl) (by kernel_rfl) (fun _ _ _ h => h) (by assumption) ⟨by rfl, ?_⟩ ?_
                  · intro W hW
                    go_simp
                  try simp only [Act.put, List.setIfInBounds_toArray, List.set_cons_zero, List.set_cons_succ, List.getElem_toArray, List.getElem_cons_zero, List.getElem_cons_succ]
                  refine anyR_take (i := 9) (.slice (some ⟨b, off, none⟩) n c) rfl (by kernel_rfl) (by kernel_rfl) (by kernel_rfl) (by kernel_rfl) (fun _ _ _ h => h) (by assumption) ⟨by rfl, ?_⟩ ?_
                  · intro W hW
                    go_simp
                  try simp only [Act.put, List.setIfInBounds_toArray, List.set_cons_zero, List.set_cons_succ, List.getElem_toArray, List.getElem_cons_zero, List.getElem_cons_succ]
                  refine anyR_take (i := 10) (.int .i64 ((t : Nat) : Int)) rfl (by kernel_rfl) (by kernel_rfl) (by kernel_rfl) (by kernel_rfl) (fun _ _ _ h => h) (by assumption) ⟨by rfl, ?_⟩ ?_
                  · intro W hW
                    go_simp
                  try simp only [Act.put, List.setIfInBounds_toArray, List.set_cons_zero, List.set_cons_succ, List.getElem_toArray, List.getElem_cons_zero, List.getElem_cons_succ]
                  refine anyR_take (i := 11) (.slice (some ⟨gp, 0, none⟩) (u + 1) pc) rfl (by kernel_rfl) (by kernel_rfl) (by kernel_rfl) (by kernel_rfl) (fun _ _ _ h => h) (by assumption) ⟨by rfl, ?_⟩ ?_
                  · intro W hW
                    go_simp
                  try simp only [Act.put, List.setIfInBounds_toArray, List.set_cons_zero, List.set_cons_succ, List.getElem_toArray, List.getElem_cons_zero, List.getElem_cons_succ]
                  refine anyR_one (i := 12) (by kernel_rfl) rfl ?_
                  intro K hK
                  go_simp
                  refine (EF.out _ (VV.out.below hS.1) (IP.out.below hS.1)).mono ?_
                  rintro e w9 ⟨E1, L1, ec, rfl, hL, hL12, b9⟩
                  have dL := decide_eq_false (show ¬ (0 : Int) < (L1 : Int) by have h0 : L1 = 0 := hL.2 RT.out; omega)
                  have nL : L1 = 0 := hL.2 RT.out
                  have hT := SS.out w9 (bel_trans hS.1 b9)
                  refine hK.out _ _ (fun _ => hT) ?_
                  clear hS b9 hL
                  have hS := hT
                  clear hT
                  clear hK K
                  try simp only [Act.put, List.setIfInBounds_toArray, List.set_cons_zero, List.set_cons_succ, List.getElem_toArray, List.getElem_cons_zero, List.getElem_cons_succ]
                  refine anyR_take (i := 13) (.int .i64 (L1 : Nat)) rfl (by kernel_rfl) (by kernel_rfl) (by kernel_rfl) (by kernel_rfl) (fun _ _ _ h => h) (by assumption) ⟨by rfl, ?_⟩ ?_
                  · intro W hW
                    go_simp
                  try simp only [Act.put, List.setIfInBounds_toArray, List.set_cons_zero, List.set_cons_succ, List.getElem_toArray, List.getElem_cons_zero, List.getElem_cons_succ]
                  refine anyR_take (i := 14) (.bool false) rfl (by kernel_rfl) (by kernel_rfl) (by kernel_rfl) (by kernel_rfl) (fun _ _ _ h => h) (by assumption) ⟨by rfl, ?_⟩ ?_
                  · intro W hW
                    go_simp
                  try simp only [Act.put, List.setIfInBounds_toArray, List.set_cons_zero, List.set_cons_succ, List.getElem_toArray, List.getElem_cons_zero, List.getElem_cons_succ]
                  refine anyR_take (i := 15) (.bool false) rfl (by kernel_rfl) (by kernel_rfl) (by kernel_rfl) (by kernel_rfl) (fun _ _ _ h => h) (by assumption) ⟨by rfl, ?_⟩ ?_
                  · intro W hW
                    go_simp
                  try simp only [Act.put, List.setIfInBounds_toArray, List.set_cons_zero, List.set_cons_succ, List.getElem_toArray, List.getElem_cons_zero, List.getElem_cons_succ]
                  refine anyR_take (i := 16) (.bool false) rfl (by kernel_rfl) (by kernel_rfl) (by kernel_rfl) (by kernel_rfl) (fun _ _ _ h => h) (by assumption) ⟨by rfl, ?_⟩ ?_
                  · intro W hW
                    go_simp
                  try simp only [Act.put, List.setIfInBounds_toArray, List.set_cons_zero, List.set_cons_succ, List.getElem_toArray, List.getElem_cons_zero, List.getElem_cons_succ]
                  refine anyR_take (i := 17) (.int .i64 (rule : Int)) rfl (by kernel_rfl) (by kernel_rfl) (by kernel_rfl) (by kernel_rfl) (fun _ _ _ h => h) (by assumption) ⟨by rfl, ?_⟩ ?_
                  · intro W hW
                    go_simp
                  try simp only [Act.put, List.setIfInBounds_toArray, List.set_cons_zero, List.set_cons_succ, List.getElem_toArray, List.getElem_cons_zero, List.getElem_cons_succ]
                  refine anyR_take (i := 18) (.bool false) rfl (by kernel_rfl) (by kernel_rfl) (by kernel_rfl) (by kernel_rfl) (fun _ _ _ h => h) (by assumption) ⟨by rfl, ?_⟩ ?_
                  · intro W hW
                    go_simp
                  try simp only [Act.put, List.setIfInBounds_toArray, List.set_cons_zero, List.set_cons_succ, List.getElem_toArray, List.getElem_cons_zero, List.getElem_cons_succ]
                  refine anyR_take (i := 19) (.bool false) rfl (by kernel_rfl) (by kernel_rfl) (by kernel_rfl) (by kernel_rfl) (fun _ _ _ h => h) (by assumption) ⟨by rfl, ?_⟩ ?_
                  · intro W hW
                    go_simp
                  try simp only [Act.put, List.setIfInBounds_toArray, List.set_cons_zero, List.set_cons_succ, List.getElem_toArray, List.getElem_cons_zero, List.getElem_cons_succ]
                  refine anyR_skip (i := 20) rfl (by kernel_rfl) (by kernel_rfl) (by kernel_rfl) (by kernel_rfl) (fun _ _ _ h => h) (by assumption) (by rfl) ?_
                  try simp only [Act.put, List.setIfInBounds_toArray, List.set_cons_zero, List.set_cons_succ, List.getElem_toArray, List.getElem_cons_zero, List.getElem_cons_succ]
                  refine anyR_skip (i := 21) rfl (by kernel_rfl) (by kernel_rfl) (by kernel_rfl) (by kernel_rfl) (fun _ _ _ h => h) (by assumption) (by rfl) ?_
                  try simp only [Act.put, List.setIfInBounds_toArray, List.set_cons_zero, List.set_cons_succ, List.getElem_toArray, List.getElem_cons_zero, List.getElem_cons_succ]
                  refine anyR_skip (i := 22) rfl (by kernel_rfl) (by kernel_rfl) (by kernel_rfl) (by kernel_rfl) (fun _ _ _ h => h) (by assumption) (by rfl) ?_
                  try simp only [Act.put, List.setIfInBounds_toArray, List.set_cons_zero, List.set_cons_succ, List.getElem_toArray, List.getElem_cons_zero, List.getElem_cons_succ]
                  refine anyR_skip (i := 23) rfl (by kernel_rfl) (by kernel_rfl) (by kernel_rfl) (by kernel_rfl) (fun _ _ _ h => h) (by assumption) (by rfl) ?_
                  try simp only [Act.put, List.setIfInBounds_toArray, List.set_cons_zero, List.set_cons_succ, List.getElem_toArray, List.getElem_cons_zero, List.getElem_cons_succ]
                  refine anyR_skip (i := 24) rfl (by kernel_rfl) (by kernel_rfl) (by kernel_rfl) (by kernel_rfl) (fun _ _ _ h => h) (by assumption) (by rfl) ?_
                  try simp only [Act.put, List.setIfInBounds_toArray, List.set_cons_zero, List.set_cons_succ, List.getElem_toArray, List.getElem_cons_zero, List.getElem_cons_succ]
                  refine anyR_skip (i := 25) rfl (by kernel_rfl) (by kernel_rfl) (by kernel_rfl) (by kernel_rfl) (fun _ _ _ h => h) (by assumption) (by rfl) ?_
                  try simp only [Act.put, List.setIfInBounds_toArray, List.set_cons_zero, List.set_cons_succ, List.getElem_toArray, List.getElem_cons_zero, List.getElem_cons_succ]
                  refine anyR_skip (i := 26) rfl (by kernel_rfl) (by kernel_rfl) (by kernel_rfl) (by kernel_rfl) (fun _ _ _ h => h) (by assumption) (by rfl) ?_
                  try simp only [Act.put, List.setIfInBounds_toArray, List.set_cons_zero, List.set_cons_succ, List.getElem_toArray, List.getElem_cons_zero, List.getElem_cons_succ]
                  refine anyR_skip (i := 27) rfl (by kernel_rfl) (by kernel_rfl) (by kernel_rfl) (by kernel_rfl) (fun _ _ _ h => h) (by assumption) (by rfl) ?_
                  try simp only [Act.put, List.setIfInBounds_toArray, List.set_cons_zero, List.set_cons_succ, List.getElem_toArray, List.getElem_cons_zero, List.getElem_cons_succ]
                  refine anyR_skip (i := 28) rfl (by kernel_rfl) (by kernel_rfl) (by kernel_rfl) (by kernel_rfl) (fun _ _ _ h => h) (by assumption) (by rfl) ?_
                  try simp only [Act.put, List.setIfInBounds_toArray, List.set_cons_zero, List.set_cons_succ, List.getElem_toArray, List.getElem_cons_zero, List.getElem_cons_succ]
                  refine anyR_skip (i := 29) rfl (by kernel_rfl) (by kernel_rfl) (by kernel_rfl) (by kernel_rfl) (fun _ _ _ h => h) (by assumption) (by rfl) ?_
                  try simp only [Act.put, List.setIfInBounds_toArray, List.set_cons_zero, List.set_cons_succ, List.getElem_toArray, List.getElem_cons_zero, List.getElem_cons_succ]
                  refine anyR_skip (i := 30) rfl (by kernel_rfl) (by kernel_rfl) (by kernel_rfl) (by kernel_rfl) (fun _ _ _ h => h) (by assumption) (by rfl) ?_
                  try simp only [Act.put, List.setIfInBounds_toArray, List.set_cons_zero, List.set_cons_succ, List.getElem_toArray, List.getElem_cons_zero, List.getElem_cons_succ]
                  refine anyR_skip (i := 31) rfl (by kernel_rfl) (by kernel_rfl) (by kernel_rfl) (by kernel_rfl) (fun _ _ _ h => h) (by assumption) (by rfl) ?_
                  try simp only [Act.put, List.setIfInBounds_toArray, List.set_cons_zero, List.set_cons_succ, List.getElem_toArray, List.getElem_cons_zero, List.getElem_cons_succ]
                  refine anyR_skip (i := 32) rfl (by kernel_rfl) (by kernel_rfl) (by kernel_rfl) (by kernel_rfl) (fun _ _ _ h => h) (by assumption) (by rfl) ?_
                  try simp only [Act.put, List.setIfInBounds_toArray, List.set_cons_zero, List.set_cons_succ, List.getElem_toArray, List.getElem_cons_zero, List.getElem_cons_succ]
                  refine anyR_skip (i := 33) rfl (by kernel_rfl) (by kernel_rfl) (by kernel_rfl) (by kernel_rfl) (fun _ _ _ h => h) (by assumption) (by rfl) ?_
                  try simp only [Act.put, List.setIfInBounds_toArray, List.set_cons_zero, List.set_cons_succ, List.getElem_toArray, List.getElem_cons_zero, List.getElem_cons_succ]
                  refine anyR_take (i := 34) (.bool false) rfl (by kernel_rfl) (by kernel_rfl) (by kernel_rfl) (by kernel_rfl) (fun _ _ _ h => h) (by assumption) ⟨by rfl, ?_⟩ ?_
                  · intro W hW
                    go_simp
                  try simp only [Act.put, List.setIfInBounds_toArray, List.set_cons_zero, List.set_cons_succ, List.getElem_toArray, List.getElem_cons_zero, List.getElem_cons_succ]
                  refine anyR_take (i := 35) (.bool false) rfl (by kernel_rfl) (by kernel_rfl) (by kernel_rfl) (by kernel_rfl) (fun _ _ _ h => h) (by assumption) ⟨by rfl, ?_⟩ ?_
                  · intro W hW
                    go_simp
                  try simp only [Act.put, List.setIfInBounds_toArray, List.set_cons_zero, List.set_cons_succ, List.getElem_toArray, List.getElem_cons_zero, List.getElem_cons_succ]
                  refine anyR_done (by kernel_rfl) ?_ _
                  refine NoPanic.normal ?_
                  have BU := Lib.hid hS.1
                  clear hS SS
                  go_wp2_with fail
                  go_roundw
                  case rel => exact ⟨k + 1, by omega, rfl, by go_num, NK.out, bel_trans BL.out BU.out⟩
                  case measure => simp [intOf]; omega
            · have d2 : decide ((rule : Int) = 2) = false := decide_eq_false (by omega)
              have d3 : ((rule : Int) == 2) = false := by rw [beq_eq_false_iff_ne]; omega
              have d4 : ((rule : Int) != 2) = true := by simp only [bne, d3]; rfl
              have OKF := Lib.hid (OKE.out r2)
              clear r2
              by_cases he : y + ck = x
              · have e1 : decide (y + ck = x) = true := decide_eq_true he
                have e2 : ((y + ck) == x) = true := by rw [beq_iff_eq]; exact he
                have TK := Lib.hid (OKF.out.2 he)
                clear he
                go_wp2_with fail
                refine wp_region_noPanic ?_
                refine wp_region_R (inFirst (fun W => Below wb.heap.size wb W ∧ W.cell? ⟨gd, o, none⟩ = some (.int .i64 x) ∧ W.cell? ⟨gd, t, none⟩ = some (.int .i64 y)) 36) (by kernel_rfl) ?_
                have SS := Lib.hid (fun (W : World) (hW : Below wb.heap.size wb W) => (show Below wb.heap.size wb W ∧ W.cell? ⟨gd, o, none⟩ = some (.int .i64 x) ∧ W.cell? ⟨gd, t, none⟩ = some (.int .i64 y) from ⟨hW, (hW.cell (p := ⟨gd, o, none⟩) hgb).trans HCX.out, (hW.cell (p := ⟨gd, t, none⟩) hgb).trans HCY.out⟩))
                have hS := SS.out wb.drew ⟨rfl, rfl, rfl, Nat.le_refl _, fun _ _ => rfl⟩
                refine anyR_take (i := 0) (.int .i64 (rule : Int)) rfl (by kernel_rfl) (by kernel_rfl) (by kernel_rfl) (by kernel_rfl) (fun _ _ _ h => h) (by assumption) ⟨by rfl, ?_⟩ ?_
                · intro W hW
                  go_simp
                try simp only [Act.put, List.setIfInBounds_toArray, List.set_cons_zero, List.set_cons_succ, List.getElem_toArray, List.getElem_cons_zero, List.getElem_cons_succ]
                refine anyR_take (i := 1) (.bool false) rfl (by kernel_rfl) (by kernel_rfl) (by kernel_rfl) (by kernel_rfl) (fun _ _ _ h => h) (by assumption) ⟨by rfl, ?_⟩ ?_
                · intro W hW
                  go_simp
                try simp only [Act.put, List.setIfInBounds_toArray, List.set_cons_zero, List.set_cons_succ, List.getElem_toArray, List.getElem_cons_zero, List.getElem_cons_succ]
                refine anyR_take (i := 2) (.bool false) rfl (by kernel_rfl) (by kernel_rfl) (by kernel_rfl) (by kernel_rfl) (fun _ _ _ h => h) (by assumption) ⟨by rfl, ?_⟩ ?_
                · intro W hW
                  go_simp
                try simp only [Act.put, List.setIfInBounds_toArray, List.set_cons_zero, List.set_cons_succ, List.getElem_toArray, List.getElem_cons_zero, List.getElem_cons_succ]
                refine anyR_skip (i := 3) rfl (by kernel_rfl) (by kernel_rfl) (by kernel_rfl) (by kernel_rfl) (fun _ _ _ h => h) (by assumption) (by rfl) ?_
                try simp only [Act.put, List.setIfInBounds_toArray, List.set_cons_zero, List.set_cons_succ, List.getElem_toArray, List.getElem_cons_zero, List.getElem_cons_succ]
                refine anyR_skip (i := 4) rfl (by kernel_rfl) (by kernel_rfl) (by kernel_rfl) (by kernel_rfl) (fun _ _ _ h => h) (by assumption) (by rfl) ?_
                try simp only [Act.put, List.setIfInBounds_toArray, List.set_cons_zero, List.set_cons_succ, List.getElem_toArray, List.getElem_cons_zero, List.getElem_cons_succ]
                refine anyR_skip (i := 5) rfl (by kernel_rfl) (by kernel_rfl) (by kernel_rfl) (by kernel_rfl) (fun _ _ _ h => h) (by assumption) (by rfl) ?_
                try simp only [Act.put, List.setIfInBounds_toArray, List.set_cons_zero, List.set_cons_succ, List.getElem_toArray, List.getElem_cons_zero, List.getElem_cons_succ]
                refine anyR_skip (i := 6) rfl (by kernel_rfl) (by kernel_rfl) (by kernel_rfl) (by kernel_rfl) (fun _ _ _ h => h) (by assumption) (by rfl) ?_
                try simp only [Act.put, List.setIfInBounds_toArray, List.set_cons_zero, List.set_cons_succ, List.getElem_toArray, List.getElem_cons_zero, List.getElem_cons_succ]
                refine anyR_take (i := 7) (.bool false) rfl (by kernel_rfl) (by kernel_rfl) (by kernel_rfl) (by kernel_rfl) (fun _ _ _ h => h) (by assumption) ⟨by rfl, ?_⟩ ?_
                · intro W hW
                  go_simp
                try simp only [Act.put, List.setIfInBounds_toArray, List.set_cons_zero, List.set_cons_succ, List.getElem_toArray, List.getElem_cons_zero, List.getElem_cons_succ]
                refine anyR_take (i := 8) (.bool false) rfl (by kernel_rfl) (by kernel_rfl) (by kernel_rfl) (by kernel_rfl) (fun _ _ _ h => h) (by assumption) ⟨by rfl, ?_⟩ ?_
                · intro W hW
                  go_simp
                try simp only [Act.put, List.setIfInBounds_toArray, List.set_cons_zero, List.set_cons_succ, List.getElem_toArray, List.getElem_cons_zero, List.getElem_cons_succ]
                refine anyR_skip (i := 9) rfl (by kernel_rfl) (by kernel_rfl) (by kernel_rfl) (by kernel_rfl) (fun _ _ _ h => h) (by assumption) (by rfl) ?_
                try simp only [Act.put, List.setIfInBounds_toArray, List.set_cons_zero, List.set_cons_succ, List.getElem_toArray, List.getElem_cons_zero, List.getElem_cons_succ]
                refine anyR_skip (i := 10) rfl (by kernel_rfl) (by kernel_rfl) (by kernel_rfl) (by kernel_rfl) (fun _ _ _ h => h) (by assumption) (by rfl) ?_
                try simp only [Act.put, List.setIfInBounds_toArray, List.set_cons_zero, List.set_cons_succ, List.getElem_toArray, List.getElem_cons_zero, List.getElem_cons_succ]
                refine anyR_skip (i := 11) rfl (by kernel_rfl) (by kernel_rfl) (by kernel_rfl) (by kernel_rfl) (fun _ _ _ h => h) (by assumption) (by rfl) ?_
                try simp only [Act.put, List.setIfInBounds_toArray, List.set_cons_zero, List.set_cons_succ, List.getElem_toArray, List.getElem_cons_zero, List.getElem_cons_succ]
                refine anyR_skip (i := 12) rfl (by kernel_rfl) (by kernel_rfl) (by kernel_rfl) (by kernel_rfl) (fun _ _ _ h => h) (by assumption) (by rfl) ?_
                try simp only [Act.put, List.setIfInBounds_toArray, List.set_cons_zero, List.set_cons_succ, List.getElem_toArray, List.getElem_cons_zero, List.getElem_cons_succ]
                refine anyR_skip (i := 13) rfl (by kernel_rfl) (by kernel_rfl) (by kernel_rfl) (by kernel_rfl) (fun _ _ _ h => h) (by assumption) (by rfl) ?_
                try simp only [Act.put, List.setIfInBounds_toArray, List.set_cons_zero, List.set_cons_succ, List.getElem_toArray, List.getElem_cons_zero, List.getElem_cons_succ]
                refine anyR_skip (i := 14) rfl (by kernel_rfl) (by kernel_rfl) (by kernel_rfl) (by kernel_rfl) (fun _ _ _ h => h) (by assumption) (by rfl) ?_
                try simp only [Act.put, List.setIfInBounds_toArray, List.set_cons_zero, List.set_cons_succ, List.getElem_toArray, List.getElem_cons_zero, List.getElem_cons_succ]
                refine anyR_take (i := 15) (.bool false) rfl (by kernel_rfl) (by kernel_rfl) (by kernel_rfl) (by kernel_rfl) (fun _ _ _ h => h) (by assumption) ⟨by rfl, ?_⟩ ?_
                · intro W hW
                  go_simp
                try simp only [Act.put, List.setIfInBounds_toArray, List.set_cons_zero, List.set_cons_succ, List.getElem_toArray, List.getElem_cons_zero, List.getElem_cons_succ]
                refine anyR_take (i := 16) (.bool false) rfl (by kernel_rfl) (by kernel_rfl) (by kernel_rfl) (by kernel_rfl) (fun _ _ _ h => h) (by assumption) ⟨by rfl, ?_⟩ ?_
                · intro W hW
                  go_simp
                try simp only [Act.put, List.setIfInBounds_toArray, List.set_cons_zero, List.set_cons_succ, List.getElem_toArray, List.getElem_cons_zero, List.getElem_cons_succ]
                refine anyR_take (i := 17) (.int .i64 (rule : Int)) rfl (by kernel_rfl) (by kernel_rfl) (by kernel_rfl) (by kernel_rfl) (fun _ _ _ h => h) (by assumption) ⟨by rfl, ?_⟩ ?_
                · intro W hW
                  go_simp
                try simp only [Act.put, List.setIfInBounds_toArray, List.set_cons_zero, List.set_cons_succ, List.getElem_toArray, List.getElem_cons_zero, List.getElem_cons_succ]
                refine anyR_take (i := 18) (.bool true) rfl (by kernel_rfl) (by kernel_rfl) (by kernel_rfl) (by kernel_rfl) (fun _ _ _ h => h) (by assumption) ⟨by rfl, ?_⟩ ?_
                · intro W hW
                  go_simp
                try simp only [Act.put, List.setIfInBounds_toArray, List.set_cons_zero, List.set_cons_succ, List.getElem_toArray, List.getElem_cons_zero, List.getElem_cons_succ]
                refine anyR_take (i := 19) (.bool true) rfl (by kernel_rfl) (by kernel_rfl) (by kernel_rfl) (by kernel_rfl) (fun _ _ _ h => h) (by assumption) ⟨by rfl, ?_⟩ ?_
                · intro W hW
                  go_simp
                try simp only [Act.put, List.setIfInBounds_toArray, List.set_cons_zero, List.set_cons_succ, List.getElem_toArray, List.getElem_cons_zero, List.getElem_cons_succ]
                refine anyR_take (i := 20) (.slice (some ⟨gd, 0, none⟩) n dc) rfl (by kernel_rfl) (by kernel_rfl) (by kernel_rfl) (by kernel_rfl) (fun _ _ _ h => h) (by assumption) ⟨by rfl, ?_⟩ ?_
                · intro W hW
                  go_simp
                try simp only [Act.put, List.setIfInBounds_toArray, List.set_cons_zero, List.set_cons_succ, List.getElem_toArray, List.getElem_cons_zero, List.getElem_cons_succ]
                refine anyR_take (i := 21) (.int .i64 ((t : Nat) : Int)) rfl (by kernel_rfl) (by kernel_rfl) (by kernel_rfl) (by kernel_rfl) (fun _ _ _ h => h) (by assumption) ⟨by rfl, ?_⟩ ?_
                · intro W hW
                  go_simp
                try simp only [Act.put, List.setIfInBounds_toArray, List.set_cons_zero, List.set_cons_succ, List.getElem_toArray, List.getElem_cons_zero, List.getElem_cons_succ]
                refine anyR_take (i := 22) (.pointer (some ⟨gd, (t), none⟩)) rfl (by kernel_rfl) (by kernel_rfl) (by kernel_rfl) (by kernel_rfl) (fun _ _ _ h => h) (by assumption) ⟨by rfl, ?_⟩ ?_
                · intro W hW
                  go_simp
                try simp only [Act.put, List.setIfInBounds_toArray, List.set_cons_zero, List.set_cons_succ, List.getElem_toArray, List.getElem_cons_zero, List.getElem_cons_succ]
                refine anyR_take (i := 23) (.int .i64 y) rfl (by kernel_rfl) (by kernel_rfl) (by kernel_rfl) (by kernel_rfl) (fun _ _ _ h => h) (by assumption) ⟨by rfl, ?_⟩ ?_
                · intro W hW
                  go_simp
                try simp only [Act.put, List.setIfInBounds_toArray, List.set_cons_zero, List.set_cons_succ, List.getElem_toArray, List.getElem_cons_zero, List.getElem_cons_succ]
                refine anyR_take (i := 24) (.func (.func N) #[] #[]) rfl (by kernel_rfl) (by kernel_rfl) (by kernel_rfl) (by kernel_rfl) (fun _ _ _ h => h) (by assumption) ⟨by rfl, ?_⟩ ?_
                · intro W hW
                  go_simp
                try simp only [Act.put, List.setIfInBounds_toArray, List.set_cons_zero, List.set_cons_succ, List.getElem_toArray, List.getElem_cons_zero, List.getElem_cons_succ]
                refine anyR_take (i := 25) (.int .i64 ((k : Nat) : Int)) rfl (by kernel_rfl) (by kernel_rfl) (by kernel_rfl) (by kernel_rfl) (fun _ _ _ h => h) (by assumption) ⟨by rfl, ?_⟩ ?_
                · intro W hW
                  go_simp
                try simp only [Act.put, List.setIfInBounds_toArray, List.set_cons_zero, List.set_cons_succ, List.getElem_toArray, List.getElem_cons_zero, List.getElem_cons_succ]
                refine anyR_take (i := 26) (.int .i64 ((k : Int) + 1)) rfl (by kernel_rfl) (by kernel_rfl) (by kernel_rfl) (by kernel_rfl) (fun _ _ _ h => h) (by assumption) ⟨by rfl, ?_⟩ ?_
                · intro W hW
                  go_simp
                try simp only [Act.put, List.setIfInBounds_toArray, List.set_cons_zero, List.set_cons_succ, List.getElem_toArray, List.getElem_cons_zero, List.getElem_cons_succ]
                refine anyR_take (i := 29) (.slice (some ⟨gd, 0, none⟩) n dc) rfl (by kernel_rfl) (by kernel_rfl) (by kernel_rfl) (by kernel_rfl) (fun _ _ _ h => h) (by assumption) ⟨by rfl, ?_⟩ ?_
                · intro W hW
                  go_simp
                try simp only [Act.put, List.setIfInBounds_toArray, List.set_cons_zero, List.set_cons_succ, List.getElem_toArray, List.getElem_cons_zero, List.getElem_cons_succ]
                refine anyR_take (i := 30) (.int .i64 ((o : Nat) : Int)) rfl (by kernel_rfl) (by kernel_rfl) (by kernel_rfl) (by kernel_rfl) (fun _ _ _ h => h) (by assumption) ⟨by rfl, ?_⟩ ?_
                · intro W hW
                  go_simp
                try simp only [Act.put, List.setIfInBounds_toArray, List.set_cons_zero, List.set_cons_succ, List.getElem_toArray, List.getElem_cons_zero, List.getElem_cons_succ]
                refine anyR_take (i := 31) (.pointer (some ⟨gd, (o), none⟩)) rfl (by kernel_rfl) (by kernel_rfl) (by kernel_rfl) (by kernel_rfl) (fun _ _ _ h => h) (by assumption) ⟨by rfl, ?_⟩ ?_
                · intro W hW
                  go_simp
                try simp only [Act.put, List.setIfInBounds_toArray, List.set_cons_zero, List.set_cons_succ, List.getElem_toArray, List.getElem_cons_zero, List.getElem_cons_succ]
                refine anyR_take (i := 32) (.int .i64 x) rfl (by kernel_rfl) (by kernel_rfl) (by kernel_rfl) (by kernel_rfl) (fun _ _ _ h => h) (by assumption) ⟨by rfl, ?_⟩ ?_
                · intro W hW
                  go_simp
                try simp only [Act.put, List.setIfInBounds_toArray, List.set_cons_zero, List.set_cons_succ, List.getElem_toArray, List.getElem_cons_zero, List.getElem_cons_succ]
                refine anyR_one (i := 27) (by kernel_rfl) rfl ?_
                intro K hK
                go_simp
                rw [CF.out, Oper.upon_enter]
                refine (CC.out _).mono ?_
                rintro e w9 ⟨rfl, rfl⟩
                refine hK.out _ _ (fun _ => hS) ?_
                clear hK K
                try simp only [Act.put, List.setIfInBounds_toArray, List.set_cons_zero, List.set_cons_succ, List.getElem_toArray, List.getElem_cons_zero, List.getElem_cons_succ]
                refine anyR_take (i := 28) (.int .i64 (y + ck)) rfl (by kernel_rfl) (by kernel_rfl) (by kernel_rfl) (by kernel_rfl) (fun _ _ _ h => h) (by assumption) ⟨by rfl, ?_⟩ ?_
                · intro W hW
                  go_simp
                try simp only [Act.put, List.setIfInBounds_toArray, List.set_cons_zero, List.set_cons_succ, List.getElem_toArray, List.getElem_cons_zero, List.getElem_cons_succ]
                refine anyR_take (i := 33) (.bool true) rfl (by kernel_rfl) (by kernel_rfl) (by kernel_rfl) (by kernel_rfl) (fun _ _ _ h => h) (by assumption) ⟨by rfl, ?_⟩ ?_
                · intro W hW
                  go_simp
                try simp only [Act.put, List.setIfInBounds_toArray, List.set_cons_zero, List.set_cons_succ, List.getElem_toArray, List.getElem_cons_zero, List.getElem_cons_succ]
                refine anyR_take (i := 34) (.bool true) rfl (by kernel_rfl) (by kernel_rfl) (by kernel_rfl) (by kernel_rfl) (fun _ _ _ h => h) (by assumption) ⟨by rfl, ?_⟩ ?_
                · intro W hW
                  go_simp
                try simp only [Act.put, List.setIfInBounds_toArray, List.set_cons_zero, List.set_cons_succ, List.getElem_toArray, List.getElem_cons_zero, List.getElem_cons_succ]
                refine anyR_take (i := 35) (.bool true) rfl (by kernel_rfl) (by kernel_rfl) (by kernel_rfl) (by kernel_rfl) (fun _ _ _ h => h) (by assumption) ⟨by rfl, ?_⟩ ?_
                · intro W hW
                  go_simp
                try simp only [Act.put, List.setIfInBounds_toArray, List.set_cons_zero, List.set_cons_succ, List.getElem_toArray, List.getElem_cons_zero, List.getElem_cons_succ]
                refine anyR_done (by kernel_rfl) ?_ _
                refine NoPanic.normal ?_
                have BU := Lib.hid hS.1
                clear hS SS
                have OP9 := Lib.hid (OP2.out.below BU.out)
                have OD9 := Lib.hid (OD2.out.below BU.out)
                have B9 := Lib.hid (bel_trans BW.out BU.out)
                have sb9 := B9.out.size
                go_wp2_with (at_builtin; refine app_int_at _ rfl _ _ rfl w.heap.size (some ⟨gp, 0, none⟩) (u + 1) pc _ rfl OP9.out (t : Int) (by omega) (by omega) rfl (by omega) sb9 ?_; intro A3 c3 w3 p1 p2 p3)
                go_roundw
                case rel =>
                  refine ⟨A3, u + 1, c3, q ++ [o], t, rfl, by simp; have := HU.out; omega, GG.out.step OK.out HBV.out HT.out TK.out, ?_, by rw [zr_app]; exact p1, OD9.out.kept p2 (own_ne OD9.out.1 OP9.out.1 (by decide)), B9.out.grown p2 B9.out.size (fun x hx => (OP9.out.block x hx).1)⟩
                  rw [← HB.out, show V.length - q.length = (V.length - (q ++ [o]).length) + 1 by rw [List.length_append, List.length_singleton]; omega, bpo_next HBV.out (NXT.out TK.out)]
                case measure => have := HU.out; simp only [lenV_slice]; omega
              · have e1 : decide (y + ck = x) = false := decide_eq_false he
                have e2 : ((y + ck) == x) = false := by rw [beq_eq_false_iff_ne]; exact he
                have NK := Lib.hid (NNO.out (fun h => he (OKF.out.1 h)))
                clear he
                go_wp2_with fail
                refine wp_region_noPanic ?_
                refine wp_region_R (inFirst (fun W => Below wb.heap.size wb W ∧ W.cell? ⟨gd, o, none⟩ = some (.int .i64 x) ∧ W.cell? ⟨gd, t, none⟩ = some (.int .i64 y)) 36) (by kernel_rfl) ?_
                have SS := Lib.hid (fun (W : World) (hW : Below wb.heap.size wb W) => (show Below wb.heap.size wb W ∧ W.cell? ⟨gd, o, none⟩ = some (.int .i64 x) ∧ W.cell? ⟨gd, t, none⟩ = some (.int .i64 y) from ⟨hW, (hW.cell (p := ⟨gd, o, none⟩) hgb).trans HCX.out, (hW.cell (p := ⟨gd, t, none⟩) hgb).trans HCY.out⟩))
                have hS := SS.out wb.drew ⟨rfl, rfl, rfl, Nat.le_refl _, fun _ _ => rfl⟩
                refine anyR_take (i := 0) (.int .i64 (rule : Int)) rfl (by kernel_rfl) (by kernel_rfl) (by kernel_rfl) (by kernel_rfl) (fun _ _ _ h => h) (by assumption) ⟨by rfl, ?_⟩ ?_
                · intro W hW
                  go_simp
                try simp only [Act.put, List.setIfInBounds_toArray, List.set_cons_zero, List.set_cons_succ, List.getElem_toArray, List.getElem_cons_zero, List.getElem_cons_succ]
                refine anyR_take (i := 1) (.bool false) rfl (by kernel_rfl) (by kernel_rfl) (by kernel_rfl) (by kernel_rfl) (fun _ _ _ h => h) (by assumption) ⟨by rfl, ?_⟩ ?_
                · intro W hW
                  go_simp
                try simp only [Act.put, List.setIfInBounds_toArray, List.set_cons_zero, List.set_cons_succ, List.getElem_toArray, List.getElem_cons_zero, List.getElem_cons_succ]
                refine anyR_take (i := 2) (.bool false) rfl (by kernel_rfl) (by kernel_rfl) (by kernel_rfl) (by kernel_rfl) (fun _ _ _ h => h) (by assumption) ⟨by rfl, ?_⟩ ?_
                · intro W hW
                  go_simp
                try simp only [Act.put, List.setIfInBounds_toArray, List.set_cons_zero, List.set_cons_succ, List.getElem_toArray, List.getElem_cons_zero, List.getElem_cons_succ]
                refine anyR_skip (i := 3) rfl (by kernel_rfl) (by kernel_rfl) (by kernel_rfl) (by kernel_rfl) (fun _ _ _ h => h) (by assumption) (by rfl) ?_
                try simp only [Act.put, List.setIfInBounds_toArray, List.set_cons_zero, List.set_cons_succ, List.getElem_toArray, List.getElem_cons_zero, List.getElem_cons_succ]
                refine anyR_skip (i := 4) rfl (by kernel_rfl) (by kernel_rfl) (by kernel_rfl) (by kernel_rfl) (fun _ _ _ h => h) (by assumption) (by rfl) ?_
                try simp only [Act.put, List.setIfInBounds_toArray, List.set_cons_zero, List.set_cons_succ, List.getElem_toArray, List.getElem_cons_zero, List.getElem_cons_succ]
                refine anyR_skip (i := 5) rfl (by kernel_rfl) (by kernel_rfl) (by kernel_rfl) (by kernel_rfl) (fun _ _ _ h => h) (by assumption) (by rfl) ?_
                try simp only [Act.put, List.setIfInBounds_toArray, List.set_cons_zero, List.set_cons_succ, List.getElem_toArray, List.getElem_cons_zero, List.getElem_cons_succ]
                refine anyR_skip (i := 6) rfl (by kernel_rfl) (by kernel_rfl) (by kernel_rfl) (by kernel_rfl) (fun _ _ _ h => h) (by assumption) (by rfl) ?_
                try simp only [Act.put, List.setIfInBounds_toArray, List.set_cons_zero, List.set_cons_succ, List.getElem_toArray, List.getElem_cons_zero, List.getElem_cons_succ]
                refine anyR_take (i := 7) (.bool false) rfl (by kernel_rfl) (by kernel_rfl) (by kernel_rfl) (by kernel_rfl) (fun _ _ _ h => h) (by assumption) ⟨by rfl, ?_⟩ ?_
                · intro W hW
                  go_simp
                try simp only [Act.put, List.setIfInBounds_toArray, List.set_cons_zero, List.set_cons_succ, List.getElem_toArray, List.getElem_cons_zero, List.getElem_cons_succ]
                refine anyR_take (i := 8) (.bool false) rfl (by kernel_rfl) (by kernel_rfl) (by kernel_rfl) (by kernel_rfl) (fun _ _ _ h => h) (by assumption) ⟨by rfl, ?_⟩ ?_
                · intro W hW
                  go_simp
                try simp only [Act.put, List.setIfInBounds_toArray, List.set_cons_zero, List.set_cons_succ, List.getElem_toArray, List.getElem_cons_zero, List.getElem_cons_succ]
                refine anyR_skip (i := 9) rfl (by kernel_rfl) (by kernel_rfl) (by kernel_rfl) (by kernel_rfl) (fun _ _ _ h => h) (by assumption) (by rfl) ?_
                try simp only [Act.put, List.setIfInBounds_toArray, List.set_cons_zero, List.set_cons_succ, List.getElem_toArray, List.getElem_cons_zero, List.getElem_cons_succ]
                refine anyR_skip (i := 10) rfl (by kernel_rfl) (by kernel_rfl) (by kernel_rfl) (by kernel_rfl) (fun _ _ _ h => h) (by assumption) (by rfl) ?_
                try simp only [Act.put, List.setIfInBounds_toArray, List.set_cons_zero, List.set_cons_succ, List.getElem_toArray, List.getElem_cons_zero, List.getElem_cons_succ]
                refine anyR_skip (i := 11) rfl (by kernel_rfl) (by kernel_rfl) (by kernel_rfl) (by kernel_rfl) (fun _ _ _ h => h) (by assumption) (by rfl) ?_
                try simp only [Act.put, List.setIfInBounds_toArray, List.set_cons_zero, List.set_cons_succ, List.getElem_toArray, List.getElem_cons_zero, List.getElem_cons_succ]
                refine anyR_skip (i := 12) rfl (by kernel_rfl) (by kernel_rfl) (by kernel_rfl) (by kernel_rfl) (fun _ _ _ h => h) (by assumption) (by rfl) ?_
                try simp only [Act.put, List.setIfInBounds_toArray, List.set_cons_zero, List.set_cons_succ, List.getElem_toArray, List.getElem_cons_zero, List.getElem_cons_succ]
                refine anyR_skip (i := 13) rfl (by kernel_rfl) (by kernel_rfl) (by kernel_rfl) (by kernel_rfl) (fun _ _ _ h => h) (by assumption) (by rfl) ?_
                try simp only [Act.put, List.setIfInBounds_toArray, List.set_cons_zero, List.set_cons_succ, List.getElem_toArray, List.getElem_cons_zero, List.getElem_cons_succ]
                refine anyR_skip (i := 14) rfl (by kernel_rfl) (by kernel_rfl) (by kernel_rfl) (by kernel_rfl) (fun _ _ _ h => h) (by assumption) (by rfl) ?_
                try simp only [Act.put, List.setIfInBounds_toArray, List.set_cons_zero, List.set_cons_succ, List.getElem_toArray, List.getElem_cons_zero, List.getElem_cons_succ]
                refine anyR_take (i := 15) (.bool false) rfl (by kernel_rfl) (by kernel_rfl) (by kernel_rfl) (by kernel_rfl) (fun _ _ _ h => h) (by assumption) ⟨by rfl, ?_⟩ ?_
                · intro W hW
                  go_simp
                try simp only [Act.put, List.setIfInBounds_toArray, List.set_cons_zero, List.set_cons_succ, List.getElem_toArray, List.getElem_cons_zero, List.getElem_cons_succ]
                refine anyR_take (i := 16) (.bool false) rfl (by kernel_rfl) (by kernel_rfl) (by kernel_rfl) (by kernel_rfl) (fun _ _ _ h => h) (by assumption) ⟨by rfl, ?_⟩ ?_
                · intro W hW
                  go_simp
                try simp only [Act.put, List.setIfInBounds_toArray, List.set_cons_zero, List.set_cons_succ, List.getElem_toArray, List.getElem_cons_zero, List.getElem_cons_succ]
                refine anyR_take (i := 17) (.int .i64 (rule : Int)) rfl (by kernel_rfl) (by kernel_rfl) (by kernel_rfl) (by kernel_rfl) (fun _ _ _ h => h) (by assumption) ⟨by rfl, ?_⟩ ?_
                · intro W hW
                  go_simp
                try simp only [Act.put, List.setIfInBounds_toArray, List.set_cons_zero, List.set_cons_succ, List.getElem_toArray, List.getElem_cons_zero, List.getElem_cons_succ]
                refine anyR_take (i := 18) (.bool true) rfl (by kernel_rfl) (by kernel_rfl) (by kernel_rfl) (by kernel_rfl) (fun _ _ _ h => h) (by assumption) ⟨by rfl, ?_⟩ ?_
                · intro W hW
                  go_simp
                try simp only [Act.put, List.setIfInBounds_toArray, List.set_cons_zero, List.set_cons_succ, List.getElem_toArray, List.getElem_cons_zero, List.getElem_cons_succ]
                refine anyR_take (i := 19) (.bool true) rfl (by kernel_rfl) (by kernel_rfl) (by kernel_rfl) (by kernel_rfl) (fun _ _ _ h => h) (by assumption) ⟨by rfl, ?_⟩ ?_
                · intro W hW
                  go_simp
                try simp only [Act.put, List.setIfInBounds_toArray, List.set_cons_zero, List.set_cons_succ, List.getElem_toArray, List.getElem_cons_zero, List.getElem_cons_succ]
                refine anyR_take (i := 20) (.slice (some ⟨gd, 0, none⟩) n dc) rfl (by kernel_rfl) (by kernel_rfl) (by kernel_rfl) (by kernel_rfl) (fun _ _ _ h => h) (by assumption) ⟨by rfl, ?_⟩ ?_
                · intro W hW
                  go_simp
                try simp only [Act.put, List.setIfInBounds_toArray, List.set_cons_zero, List.set_cons_succ, List.getElem_toArray, List.getElem_cons_zero, List.getElem_cons_succ]
                refine anyR_take (i := 21) (.int .i64 ((t : Nat) : Int)) rfl (by kernel_rfl) (by kernel_rfl) (by kernel_rfl) (by kernel_rfl) (fun _ _ _ h => h) (by assumption) ⟨by rfl, ?_⟩ ?_
                · intro W hW
                  go_simp
                try simp only [Act.put, List.setIfInBounds_toArray, List.set_cons_zero, List.set_cons_succ, List.getElem_toArray, List.getElem_cons_zero, List.getElem_cons_succ]
                refine anyR_take (i := 22) (.pointer (some ⟨gd, (t), none⟩)) rfl (by kernel_rfl) (by kernel_rfl) (by kernel_rfl) (by kernel_rfl) (fun _ _ _ h => h) (by assumption) ⟨by rfl, ?_⟩ ?_
                · intro W hW
                  go_simp
                try simp only [Act.put, List.setIfInBounds_toArray, List.set_cons_zero, List.set_cons_succ, List.getElem_toArray, List.getElem_cons_zero, List.getElem_cons_succ]
                refine anyR_take (i := 23) (.int .i64 y) rfl (by kernel_rfl) (by kernel_rfl) (by kernel_rfl) (by kernel_rfl) (fun _ _ _ h => h) (by assumption) ⟨by rfl, ?_⟩ ?_
                · intro W hW
                  go_simp
                try simp only [Act.put, List.setIfInBounds_toArray, List.set_cons_zero, List.set_cons_succ, List.getElem_toArray, List.getElem_cons_zero, List.getElem_cons_succ]
                refine anyR_take (i := 24) (.func (.func N) #[] #[]) rfl (by kernel_rfl) (by kernel_rfl) (by kernel_rfl) (by kernel_rfl) (fun _ _ _ h => h) (by assumption) ⟨by rfl, ?_⟩ ?_
                · intro W hW
                  go_simp
                try simp only [Act.put, List.setIfInBounds_toArray, List.set_cons_zero, List.set_cons_succ, List.getElem_toArray, List.getElem_cons_zero, List.getElem_cons_succ]
                refine anyR_take (i := 25) (.int .i64 ((k : Nat) : Int)) rfl (by kernel_rfl) (by kernel_rfl) (by kernel_rfl) (by kernel_rfl) (fun _ _ _ h => h) (by assumption) ⟨by rfl, ?_⟩ ?_
                · intro W hW
                  go_simp
                try simp only [Act.put, List.setIfInBounds_toArray, List.set_cons_zero, List.set_cons_succ, List.getElem_toArray, List.getElem_cons_zero, List.getElem_cons_succ]
                refine anyR_take (i := 26) (.int .i64 ((k : Int) + 1)) rfl (by kernel_rfl) (by kernel_rfl) (by kernel_rfl) (by kernel_rfl) (fun _ _ _ h => h) (by assumption) ⟨by rfl, ?_⟩ ?_
                · intro W hW
                  go_simp
                try simp only [Act.put, List.setIfInBounds_toArray, List.set_cons_zero, List.set_cons_succ, List.getElem_toArray, List.getElem_cons_zero, List.getElem_cons_succ]
                refine anyR_take (i := 29) (.slice (some ⟨gd, 0, none⟩) n dc) rfl (by kernel_rfl) (by kernel_rfl) (by kernel_rfl) (by kernel_rfl) (fun _ _ _ h => h) (by assumption) ⟨by rfl, ?_⟩ ?_
                · intro W hW
                  go_simp
                try simp only [Act.put, List.setIfInBounds_toArray, List.set_cons_zero, List.set_cons_succ, List.getElem_toArray, List.getElem_cons_zero, List.getElem_cons_succ]
                refine anyR_take (i := 30) (.int .i64 ((o : Nat) : Int)) rfl (by kernel_rfl) (by kernel_rfl) (by kernel_rfl) (by kernel_rfl) (fun _ _ _ h => h) (by assumption) ⟨by rfl, ?_⟩ ?_
                · intro W hW
                  go_simp
                try simp only [Act.put, List.setIfInBounds_toArray, List.set_cons_zero, List.set_cons_succ, List.getElem_toArray, List.getElem_cons_zero, List.getElem_cons_succ]
                refine anyR_take (i := 31) (.pointer (some ⟨gd, (o), none⟩)) rfl (by kernel_rfl) (by kernel_rfl) (by kernel_rfl) (by kernel_rfl) (fun _ _ _ h => h) (by assumption) ⟨by rfl, ?_⟩ ?_
                · intro W hW
                  go_simp
                try simp only [Act.put, List.setIfInBounds_toArray, List.set_cons_zero, List.set_cons_succ, List.getElem_toArray, List.getElem_cons_zero, List.getElem_cons_succ]
                refine anyR_take (i := 32) (.int .i64 x) rfl (by kernel_rfl) (by kernel_rfl) (by kernel_rfl) (by kernel_rfl) (fun _ _ _ h => h) (by assumption) ⟨by rfl, ?_⟩ ?_
                · intro W hW
                  go_simp
                try simp only [Act.put, List.setIfInBounds_toArray, List.set_cons_zero, List.set_cons_succ, List.getElem_toArray, List.getElem_cons_zero, List.getElem_cons_succ]
                refine anyR_one (i := 27) (by kernel_rfl) rfl ?_
                intro K hK
                go_simp
                rw [CF.out, Oper.upon_enter]
                refine (CC.out _).mono ?_
                rintro e w9 ⟨rfl, rfl⟩
                refine hK.out _ _ (fun _ => hS) ?_
                clear hK K
                try simp only [Act.put, List.setIfInBounds_toArray, List.set_cons_zero, List.set_cons_succ, List.getElem_toArray, List.getElem_cons_zero, List.getElem_cons_succ]
                refine anyR_take (i := 28) (.int .i64 (y + ck)) rfl (by kernel_rfl) (by kernel_rfl) (by kernel_rfl) (by kernel_rfl) (fun _ _ _ h => h) (by assumption) ⟨by rfl, ?_⟩ ?_
                · intro W hW
                  go_simp
                try simp only [Act.put, List.setIfInBounds_toArray, List.set_cons_zero, List.set_cons_succ, List.getElem_toArray, List.getElem_cons_zero, List.getElem_cons_succ]
                refine anyR_take (i := 33) (.bool false) rfl (by kernel_rfl) (by kernel_rfl) (by kernel_rfl) (by kernel_rfl) (fun _ _ _ h => h) (by assumption) ⟨by rfl, ?_⟩ ?_
                · intro W hW
                  go_simp
                try simp only [Act.put, List.setIfInBounds_toArray, List.set_cons_zero, List.set_cons_succ, List.getElem_toArray, List.getElem_cons_zero, List.getElem_cons_succ]
                refine anyR_take (i := 34) (.bool false) rfl (by kernel_rfl) (by kernel_rfl) (by kernel_rfl) (by kernel_rfl) (fun _ _ _ h => h) (by assumption) ⟨by rfl, ?_⟩ ?_
                · intro W hW
                  go_simp
                try simp only [Act.put, List.setIfInBounds_toArray, List.set_cons_zero, List.set_cons_succ, List.getElem_toArray, List.getElem_cons_zero, List.getElem_cons_succ]
                refine anyR_take (i := 35) (.bool false) rfl (by kernel_rfl) (by kernel_rfl) (by kernel_rfl) (by kernel_rfl) (fun _ _ _ h => h) (by assumption) ⟨by rfl, ?_⟩ ?_
                · intro W hW
                  go_simp
                try simp only [Act.put, List.setIfInBounds_toArray, List.set_cons_zero, List.set_cons_succ, List.getElem_toArray, List.getElem_cons_zero, List.getElem_cons_succ]
                refine anyR_done (by kernel_rfl) ?_ _
                refine NoPanic.normal ?_
                have BU := Lib.hid hS.1
                clear hS SS
                go_wp2_with fail
                go_roundw
                case rel => exact ⟨k + 1, by omega, rfl, by go_num, NK.out, bel_trans BL.out BU.out⟩
                case measure => simp [intOf]; omega
          · obtain rfl : tl = k := by omega
            obtain ⟨j, t, _, h3, h4⟩ := GG.out.ex HBV.out
            exact absurd h4 (NO.out j t (by have := (List.getElem?_eq_some_iff.1 h3).1; have := HTL.out; omega) h3)
      · go_wp2_with fail
        go_ret
        have e : bpath V rule m = q ++ [o] := by rw [← HB.out, bpo_stop HBV.out]
        have el : (q ++ [o]).length = u + 1 := by have := HU.out; simp; omega
        exact ⟨some ⟨gp, 0, none⟩, pc, by rw [e, el]; rfl, by rw [e, el]; exact OP.out, fun _ => ⟨gp, rfl⟩, fun h => absurd HR.out h, BB.out⟩
  · have HR := Lib.hid hr
    clear ok hV
    go_enter Try.func23, Try.ntmps23
    go_wp2_with fail
    refine E0.out.mono ?_
    rintro e w1 ⟨O1, L1, oc1, rfl, hL, hL12, b1⟩
    obtain rfl : L1 = 0 := hL.2 HR.out
    have B1 := Lib.hid b1
    clear hL E0 b1 hr
    go_wp2_with fail
    go_ret
    have e : bpath V rule m = [] := bpath_no HR.out
    exact ⟨none, 0, by rw [e]; rfl, by rw [e]; exact ownI_nil _ _, fun h => absurd h HR.out, fun _ => ⟨rfl, rfl⟩, B1.out⟩
end Go.Proofs.Ytefddohjnemdiaa
