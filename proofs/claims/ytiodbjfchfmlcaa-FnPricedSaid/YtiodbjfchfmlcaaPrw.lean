/- FnPriced, walked. -/
import Derived.Test.YtiodbjfchfmlcaaPra
import Derived.Test.YtiodbjfchfmlcaaElF
namespace Go.Proofs.Ytiodbjfchfmlcaa
set_option linter.unusedVariables false
set_option linter.unusedSimpArgs false
set_option maxRecDepth 100000
open Go.RowKit Go.Deep
def prN (D : Int) : Option (Int × Nat) → Int
  | none => 0
  | some (r, m) => redN r (D * m)
def prM (D : Int) : Option (Int × Nat) → Int
  | none => 0
  | some (r, m) => redD r (D * m)
theorem prV_eq (D : Int) (o : Option (Int × Nat)) : prV D o = .tuple #[.agg #[.int .i64 (prN D o), .int .i64 (prM D o)], .bool o.isSome] := by
  cases o with
  | none => rfl
  | some q => rfl
--GENBEG
--GENEND
set_option maxHeartbeats 8000000 in
theorem fnPriced_walk (w : World) (A : Option Addr) (n0 c : Nat) (zs : List Int) (h : Ints .u8 w A n0 c zs) (B : Option Addr) (m0 d : Nat) (ys : List Int) (k : Ints .u8 w B m0 d ys) :
    Calls Try.prog 3 #[.slice A n0 c, .slice B m0 d] w fun e w' => e = .returned (.bool true) ∧ Below w.heap.size w w' := by
  have hn := h.short
  have hm := k.short
  by_cases h1 : (decide ((1048576 : Int) < n0) || decide ((1048576 : Int) < m0)) = true
  · have H1 := Lib.hid h1
    clear h1
    go_enter Try.func3, Try.ntmps3
    go_wp2_with fail
    refine (b10Long_ok A n0 c B m0 d _ hn hm).mono ?_
    rintro e w1 ⟨rfl, rfl⟩
    rw [H1.out]
    go_wp2_with fail
    go_ret
    exact ⟨rfl, Below.refl _ _⟩
  have H1 : Hid ((decide ((1048576 : Int) < n0) || decide ((1048576 : Int) < m0)) = false) := by show _ = _; simpa using h1
  have HA := Lib.hid h
  clear h1 h k
  go_enter Try.func3, Try.ntmps3
  go_wp2_with fail
  refine (b10Long_ok A n0 c B m0 d _ hn hm).mono ?_
  rintro e w1 ⟨rfl, rfl⟩
  rw [H1.out]
  go_wp2_with fail
  refine (b10Election_any A n0 c zs _ HA.out).mono ?_
  rintro r w2 ⟨e, CA, m, cc, AA, n, ac, rfl, ok, hel, b2⟩
  have OK := Lib.hid ok
  have OW := Lib.hid ok.wide
  have hm := hel.cl
  have hn := hel.al
  have h6 := ok.cs1
  have a6 := ok.ap1
  have b0 := bel_alloc w2 (.cells #[.int .i64 e.mon, .slice CA m cc, .slice AA n ac] 27)
  have CE := Lib.hid (Cs.new w2 [.int .i64 e.mon, .slice CA m cc, .slice AA n ac] 27)
  have HE := Lib.hid (hel.below b0)
  have B2 := Lib.hid (bel_trans b2 b0)
  simp only [List.toArray] at CE
  obtain ⟨ge, hge⟩ : ∃ z, w2.heap.size = z := ⟨_, rfl⟩
  obtain ⟨w3, hw3⟩ : ∃ z, w2.alloc (.cells #[.int .i64 e.mon, .slice CA m cc, .slice AA n ac] 27) = z := ⟨_, rfl⟩
  rw [hw3] at CE HE B2
  rw [hge] at CE
  have HGE := Lib.hid hge
  have HW3 := Lib.hid hw3
  have y0 := CE.out.cell 0 rfl
  have y1 := CE.out.cell 1 rfl
  have y2 := CE.out.cell 2 rfl
  clear ok hel b0 b2 hge hw3 H1 HA
  go_upto_region 4 with fail
  rw [HGE.out, HW3.out]
  go_wp2_with fail
  refine (equalShares_ok CA m cc AA n ac e w3 HE.out OK.out).mono ?_
  rintro r w5 ⟨⟨L, O, oc, rfl, hf, ho⟩, b4⟩
  have HF := Lib.hid hf
  have EK := Lib.hid (hf.1.keep OW.out)
  have LL := EK.out.len OW.out
  have O5 := Lib.hid ho
  have CE5 := Lib.hid (CE.out.below b4)
  have HE5 := Lib.hid (HE.out.below b4)
  have B5 := Lib.hid (bel_trans B2.out b4)
  have L6 := LL.2
  have m6 : m ≤ 6 := by omega
  have n6 : n ≤ 6 := by omega
  have g8n : w5.heap.size = w5.heap.size := rfl
  have LV := Lib.hid (BO.new 32 w5 (.int .i64 0) (.int .i64 1))
  have BL := Lib.hid (bel_alloc w5 (.cells #[.int .i64 0, .int .i64 1] 32))
  clear hf ho b4 CE HE B2 HGE HW3 y0 y1 y2 LL g8n
  go_wp2_with fail
  obtain ⟨g8, hg8⟩ : ∃ z, w5.heap.size = z := ⟨_, rfl⟩
  have HG8 := Lib.hid hg8
  rw [hg8] at LV
  rw [hg8]
  clear hg8
  have FST := Lib.hid (show (0 : Int) = redN 0 1 ∧ (1 : Int) = redD 0 1 from by decide)
  have VA0 := Lib.hid (show Va 0 1 from ⟨by omega, by omega, by omega, by omega⟩)
  go_loopw [9] (fun s9 wr => ∃ (k : Nat) (N M a E : Int), k ≤ L.length ∧ s9 = .int .i64 k ∧ BO 32 wr g8 (.int .i64 N) (.int .i64 M) ∧ Hid (Va a E) ∧ Hid (N = redN a E ∧ M = redD a E) ∧ Hid (∀ x S r m, L[k]? = some x → PriK e L k x S r m → a * (S.1 * m) ≤ r * E) ∧ Below w5.heap.size w5 wr) (fun t _ => L.length - (intOf t).toNat)
  case atStart => exact ⟨0, 0, 1, 0, 1, Nat.zero_le _, rfl, LV.out, VA0.out, FST.out, (fun x S r m _ hp => by have := hp.r0; omega), BL.out⟩
  case round =>
    obtain ⟨k, N, M, a, E, hk, rfl, hbo, HVA, HNM, HLE, hb⟩ := hrel
    have LI := Lib.hid hbo
    have BI := Lib.hid hb
    have CI := Lib.hid (CE5.out.below hb)
    have zI := hb.size
    clear hbo hb LV BL FST VA0
    by_cases hlt : k < L.length
    · have d0 := decide_eq_true (show (k : Int) < (L.length : Int) by omega)
      obtain ⟨x, hx⟩ : ∃ x, L[k]? = some x := ⟨_, List.getElem?_eq_getElem hlt⟩
      obtain ⟨⟨D, P⟩, r, mq, hpk⟩ := prik OW.out HF.out.1 hx
      have PK := Lib.hid hpk
      have HX := Lib.hid hx
      have xe := EK.out.lt x (List.mem_of_getElem? hx)
      have xm : x < m := by omega
      obtain ⟨gO, rfl, gO0, gO1⟩ := O5.out.form (by omega)
      have cO5 := O5.out.cell (zns_at hx)
      have cO := (BI.out.cell (p := ⟨gO, k, none⟩) gO1).trans cO5
      have tl : (L.take k).length = k := by rw [List.length_take]; omega
      have TLL := Lib.hid (fun y (hy : y ∈ L.take k) => (show y < m from by rw [← hm]; exact EK.out.lt y (List.mem_of_mem_take hy)))
      have TND := Lib.hid (show (L.take k).Nodup from List.Nodup.sublist (List.take_sublist _ _) EK.out.nd)
      have PF : (zns L).take k = zns (L.take k) := by unfold zns; rw [List.map_take]
      have INT := Lib.hid (fun W (hW : Below wr.heap.size wr W) => (show Ints .i64 W (some ⟨gO, 0, none⟩) (L.take k).length oc (zns (L.take k)) from by
        rw [tl, ← PF]
        exact ((O5.out.below (bel_trans BI.out hW)).ints.front (by omega))))
      have PAF := Lib.hid (fun W (hW : Below wr.heap.size wr W) (p : Nat) (hp : p < m) => (show Calls Try.prog 9 #[.agg #[.int .i64 e.mon, .slice CA m cc, .slice AA n ac], .slice (some ⟨gO, 0, none⟩) k oc, .int .i64 p] W fun r w' => r = .returned (prV D (paO e L k (D, P) p)) ∧ Below W.heap.size W w' from by
        have := priceAfter_ok CA m cc AA n ac e (L.take k) (some ⟨gO, 0, none⟩) oc D P _ p W (HE5.out.below (bel_trans BI.out hW)) OK.out TLL.out TND.out (by omega) (INT.out W hW) PK.out.st.st PK.out.st.ok hp
        rw [tl] at this
        exact this))
      have D1 : 1 ≤ D := hpk.d1
      have D2 : D ≤ 279936 := hpk.d2
      have q1 := hpk.m1
      have q6 := hpk.m6
      have r0 := hpk.r0
      have r1 : r ≤ 60 * D := hpk.r1
      have Dm1 := Int.mul_pos (a := D) (b := (mq : Int)) (by omega) (by omega)
      have Dm2 := Int.mul_le_mul_of_nonneg_left (show (mq : Int) ≤ 6 by omega) (show 0 ≤ D by omega)
      have VP := Lib.hid (show Va r (D * (mq : Int)) from ⟨by omega, by omega, by omega, by omega⟩)
      have PX := PAF.out
      have pax : paO e L k (D, P) x = some (r, mq) := by
        unfold paO
        rw [if_neg hpk.best.new]
        exact hpk.best.pr
      have PA0 := fun W (hW : Below wr.heap.size wr W) => PX W hW x xm
      simp only [pax, prV_some] at PA0
      have CM0 := fun W => cmpF2_ok HVA.out VP.out W
      have q0 : cmpI (a * (D * (mq : Int))) (r * E) ≤ 0 := by
        have := HLE.out x (D, P) r mq hx hpk
        have h2 : a * (D * (mq : Int)) ≤ r * E := this
        unfold cmpI
        split
        · omega
        · rw [if_neg (by omega)]; omega
      obtain ⟨A0, hA0⟩ : ∃ z, redN r (D * (mq : Int)) = z := ⟨_, rfl⟩
      obtain ⟨A1, hA1⟩ : ∃ z, redD r (D * (mq : Int)) = z := ⟨_, rfl⟩
      obtain ⟨q, hq⟩ : ∃ z, cmpI (a * (D * (mq : Int))) (r * E) = z := ⟨_, rfl⟩
      simp only [hA0, hA1] at PA0
      unfold FV at CM0
      rw [hA0, hA1, ← HNM.out.1, ← HNM.out.2, hq] at CM0
      rw [hq] at q0
      have PA := Lib.hid PA0
      have CM := Lib.hid CM0
      have HAA := Lib.hid (And.intro hA0 hA1)
      have dq := decide_eq_false (show ¬ 0 < q by omega)
      have k0 : (0 : Int) ≤ (k : Int) := by omega
      have k1 : (k : Int) < (L.length : Int) := by omega
      have ocl := O5.out.ints.2.1
      have kc : (k : Int) ≤ (oc : Int) := by omega
      have kc' : k ≤ oc := by omega
      have gOI : gO < wr.heap.size := by omega
      have SS := Lib.hid (fun W (hW : Below wr.heap.size wr W) => (show Below wr.heap.size wr W ∧ W.cell? ⟨ge, 0, none⟩ = some (.int .i64 e.mon) ∧ W.cell? ⟨ge, 1, none⟩ = some (.slice CA m cc) ∧ W.cell? ⟨ge, 2, none⟩ = some (.slice AA n ac) ∧ W.cell? ⟨gO, k, none⟩ = some (.int .i64 (x : Int)) from
        ⟨hW, (CI.out.below hW).cell 0 rfl, (CI.out.below hW).cell 1 rfl, (CI.out.below hW).cell 2 rfl, (hW.cell (p := ⟨gO, k, none⟩) gOI).trans cO⟩))
      clear hx hpk cO5 tl PF PX pax PA0 CM0 hA0 hA1 hq Dm1 Dm2 HNM HLE INT TLL TND
      go_upto_region 11 with fail
      go_cut [10, 11] from 37 to 118 (fun s10 s11 wx => ∃ g10 : Nat, s10 = .pointer (some ⟨g10, 0, none⟩) ∧ s11 = .bool true ∧ wr.heap.size ≤ g10 ∧ BO 32 wx g10 (.int .i64 A0) (.int .i64 A1) ∧ Below wr.heap.size wr wx)
      case first =>
        refine wp_region_noPanic ?_
        refine wp_region_R (inFirst (fun W => Below wr.heap.size wr W ∧ W.cell? ⟨ge, 0, none⟩ = some (.int .i64 e.mon) ∧ W.cell? ⟨ge, 1, none⟩ = some (.slice CA m cc) ∧ W.cell? ⟨ge, 2, none⟩ = some (.slice AA n ac) ∧ W.cell? ⟨gO, k, none⟩ = some (.int .i64 (x : Int))) 14) (by kernel_rfl) ?_
        have hS := SS.out wr.drew ⟨rfl, rfl, rfl, Nat.le_refl _, fun _ _ => rfl⟩
        obtain ⟨v0, hv0⟩ : ∃ x, wr.drew = x := ⟨_, rfl⟩
        rw [hv0] at hS
        rw [hv0]
        clear hv0
        refine anyR_take (i := 0) (.agg #[.int .i64 e.mon, .slice CA m cc, .slice AA n ac]) rfl (by kernel_rfl) (by kernel_rfl) (by kernel_rfl) (by kernel_rfl) (fun _ _ _ h => h) (by assumption) ⟨by rfl, ?_⟩ ?_
        · intro W hW
          go_simp
        try simp only [Act.put, List.setIfInBounds_toArray, List.set_cons_zero, List.set_cons_succ, List.getElem_toArray, List.getElem_cons_zero, List.getElem_cons_succ]
        refine anyR_take (i := 1) (.slice (some ⟨gO, 0, none⟩) L.length oc) rfl (by kernel_rfl) (by kernel_rfl) (by kernel_rfl) (by kernel_rfl) (fun _ _ _ h => h) (by assumption) ⟨by rfl, ?_⟩ ?_
        · intro W hW
          go_simp
        try simp only [Act.put, List.setIfInBounds_toArray, List.set_cons_zero, List.set_cons_succ, List.getElem_toArray, List.getElem_cons_zero, List.getElem_cons_succ]
        refine anyR_take (i := 2) (.int .i64 (k : Nat)) rfl (by kernel_rfl) (by kernel_rfl) (by kernel_rfl) (by kernel_rfl) (fun _ _ _ h => h) (by assumption) ⟨by rfl, ?_⟩ ?_
        · intro W hW
          go_simp
        try simp only [Act.put, List.setIfInBounds_toArray, List.set_cons_zero, List.set_cons_succ, List.getElem_toArray, List.getElem_cons_zero, List.getElem_cons_succ]
        refine anyR_take (i := 3) (.slice (some ⟨gO, 0, none⟩) k oc) rfl (by kernel_rfl) (by kernel_rfl) (by kernel_rfl) (by kernel_rfl) (fun _ _ _ h => h) (by assumption) ⟨by rfl, ?_⟩ ?_
        · intro W hW
          go_simp
        try simp only [Act.put, List.setIfInBounds_toArray, List.set_cons_zero, List.set_cons_succ, List.getElem_toArray, List.getElem_cons_zero, List.getElem_cons_succ]
        refine anyR_take (i := 4) (.slice (some ⟨gO, 0, none⟩) L.length oc) rfl (by kernel_rfl) (by kernel_rfl) (by kernel_rfl) (by kernel_rfl) (fun _ _ _ h => h) (by assumption) ⟨by rfl, ?_⟩ ?_
        · intro W hW
          go_simp
        try simp only [Act.put, List.setIfInBounds_toArray, List.set_cons_zero, List.set_cons_succ, List.getElem_toArray, List.getElem_cons_zero, List.getElem_cons_succ]
        refine anyR_take (i := 5) (.int .i64 (k : Nat)) rfl (by kernel_rfl) (by kernel_rfl) (by kernel_rfl) (by kernel_rfl) (fun _ _ _ h => h) (by assumption) ⟨by rfl, ?_⟩ ?_
        · intro W hW
          go_simp
        try simp only [Act.put, List.setIfInBounds_toArray, List.set_cons_zero, List.set_cons_succ, List.getElem_toArray, List.getElem_cons_zero, List.getElem_cons_succ]
        refine anyR_take (i := 6) (.pointer (some ⟨gO, k, none⟩)) rfl (by kernel_rfl) (by kernel_rfl) (by kernel_rfl) (by kernel_rfl) (fun _ _ _ h => h) (by assumption) ⟨by rfl, ?_⟩ ?_
        · intro W hW
          go_simp
        try simp only [Act.put, List.setIfInBounds_toArray, List.set_cons_zero, List.set_cons_succ, List.getElem_toArray, List.getElem_cons_zero, List.getElem_cons_succ]
        refine anyR_take (i := 7) (.int .i64 (x : Nat)) rfl (by kernel_rfl) (by kernel_rfl) (by kernel_rfl) (by kernel_rfl) (fun _ _ _ h => h) (by assumption) ⟨by rfl, ?_⟩ ?_
        · intro W hW
          go_simp
        try simp only [Act.put, List.setIfInBounds_toArray, List.set_cons_zero, List.set_cons_succ, List.getElem_toArray, List.getElem_cons_zero, List.getElem_cons_succ]
        refine anyR_two (i := 8) (j := 12) (by kernel_rfl) rfl rfl ?_ ?_
        · intro K hK
          go_simp
          go_at_call 9
          refine (PA.out _ hS.1).mono ?_
          rintro _ v1 ⟨rfl, c1⟩
          have hT := SS.out v1 (bel_trans hS.1 c1)
          refine hK.out _ _ (fun _ => hT) ?_
          clear hS
          have hS := hT
          clear hT
          clear hK K
          try simp only [Act.put, List.setIfInBounds_toArray, List.set_cons_zero, List.set_cons_succ, List.getElem_toArray, List.getElem_cons_zero, List.getElem_cons_succ]
          refine anyR_take (i := 9) (.tuple #[.agg #[.int .i64 A0, .int .i64 A1], .bool true]) rfl (by kernel_rfl) (by kernel_rfl) (by kernel_rfl) (by kernel_rfl) (fun _ _ _ h => h) (by assumption) ⟨by rfl, ?_⟩ ?_
          · intro W hW
            go_simp
          try simp only [Act.put, List.setIfInBounds_toArray, List.set_cons_zero, List.set_cons_succ, List.getElem_toArray, List.getElem_cons_zero, List.getElem_cons_succ]
          refine anyR_take (i := 10) (.agg #[.int .i64 A0, .int .i64 A1]) rfl (by kernel_rfl) (by kernel_rfl) (by kernel_rfl) (by kernel_rfl) (fun _ _ _ h => h) (by assumption) ⟨by rfl, ?_⟩ ?_
          · intro W hW
            go_simp
          try simp only [Act.put, List.setIfInBounds_toArray, List.set_cons_zero, List.set_cons_succ, List.getElem_toArray, List.getElem_cons_zero, List.getElem_cons_succ]
          refine anyR_take (i := 11) (.bool true) rfl (by kernel_rfl) (by kernel_rfl) (by kernel_rfl) (by kernel_rfl) (fun _ _ _ h => h) (by assumption) ⟨by rfl, ?_⟩ ?_
          · intro W hW
            go_simp
          try simp only [Act.put, List.setIfInBounds_toArray, List.set_cons_zero, List.set_cons_succ, List.getElem_toArray, List.getElem_cons_zero, List.getElem_cons_succ]
          refine anyR_one (i := 12) (by kernel_rfl) rfl ?_
          intro K hK
          go_simp
          have c5 := bel_alloc v1 (.cells #[.int .i64 0, .int .i64 0] 32)
          have N5 := Lib.hid (BO.new 32 v1 (.int .i64 0) (.int .i64 0))
          have gz5 := hS.1.size
          obtain ⟨g10, hg10⟩ : ∃ z, (v1).heap.size = z := ⟨_, rfl⟩
          obtain ⟨v5, hv5⟩ : ∃ z, (v1).alloc (.cells #[.int .i64 0, .int .i64 0] 32) = z := ⟨_, rfl⟩
          rw [hv5] at c5 N5
          rw [hv5]
          rw [hg10] at N5 gz5
          try rw [hg10]
          clear hv5 hg10
          have hT := SS.out v5 (bel_trans hS.1 c5)
          refine hK.out _ _ (fun _ => hT) ?_
          clear hS
          have hS := hT
          clear hT
          clear hK K
          try simp only [Act.put, List.setIfInBounds_toArray, List.set_cons_zero, List.set_cons_succ, List.getElem_toArray, List.getElem_cons_zero, List.getElem_cons_succ]
          have N6 := Lib.hid (N5.out)
          have B6 := Lib.hid hS.1
          have q0 := N6.out.cells.1
          have q1 := N6.out.cells.2
          have f0 := N6.out.free 0
          have f1 := N6.out.free 1
          clear hS
          have GG := Lib.hid ((B6.out.setCell (p := ⟨g10, 0, none⟩) (by omega) (.int .i64 A0)).setCell (p := ⟨g10, 1, none⟩) (by omega) (.int .i64 A1))
          have hT := SS.out _ GG.out
          refine anyR_one (i := 13) (by kernel_rfl) rfl ?_
          intro K hK
          go_simp
          refine hK.out _ _ (fun _ => hT) ?_
          clear hT
          clear hK K
          try simp only [Act.put, List.setIfInBounds_toArray, List.set_cons_zero, List.set_cons_succ, List.getElem_toArray, List.getElem_cons_zero, List.getElem_cons_succ]
          refine anyR_one (i := 14) (by kernel_rfl) rfl ?_
          intro K hK
          go_simp
          refine hK.out _ _ (fun h => absurd h (by decide)) ?_
          clear hK K
          try simp only [Act.put, List.setIfInBounds_toArray, List.set_cons_zero, List.set_cons_succ, List.getElem_toArray, List.getElem_cons_zero, List.getElem_cons_succ]
          refine anyR_done (by kernel_rfl) ?_ _
          refine NoPanic.normal ?_
          obtain ⟨p1, g1⟩ := N6.out.set0 (.int .i64 A0)
          obtain ⟨p2, g2⟩ := p1.set1 (.int .i64 A1)
          have P2 := Lib.hid p2
          clear p1 g1 p2 g2 q0 q1 f0 f1
          go_wp2_with fail
          go_meet
          case rel => exact ⟨g10, rfl, rfl, by omega, P2.out, GG.out⟩
        · intro K hK
          go_simp
          have c5 := bel_alloc v0 (.cells #[.int .i64 0, .int .i64 0] 32)
          have N5 := Lib.hid (BO.new 32 v0 (.int .i64 0) (.int .i64 0))
          have gz5 := hS.1.size
          obtain ⟨g10, hg10⟩ : ∃ z, (v0).heap.size = z := ⟨_, rfl⟩
          obtain ⟨v5, hv5⟩ : ∃ z, (v0).alloc (.cells #[.int .i64 0, .int .i64 0] 32) = z := ⟨_, rfl⟩
          rw [hv5] at c5 N5
          rw [hv5]
          rw [hg10] at N5 gz5
          try rw [hg10]
          clear hv5 hg10
          have hT := SS.out v5 (bel_trans hS.1 c5)
          refine hK.out _ _ (fun _ => hT) ?_
          clear hS
          have hS := hT
          clear hT
          clear hK K
          try simp only [Act.put, List.setIfInBounds_toArray, List.set_cons_zero, List.set_cons_succ, List.getElem_toArray, List.getElem_cons_zero, List.getElem_cons_succ]
          refine anyR_one (i := 8) (by kernel_rfl) rfl ?_
          intro K hK
          go_simp
          go_at_call 9
          refine (PA.out _ hS.1).mono ?_
          rintro _ v1 ⟨rfl, c1⟩
          have hT := SS.out v1 (bel_trans hS.1 c1)
          refine hK.out _ _ (fun _ => hT) ?_
          clear hS
          have hS := hT
          clear hT
          clear hK K
          try simp only [Act.put, List.setIfInBounds_toArray, List.set_cons_zero, List.set_cons_succ, List.getElem_toArray, List.getElem_cons_zero, List.getElem_cons_succ]
          refine anyR_take (i := 9) (.tuple #[.agg #[.int .i64 A0, .int .i64 A1], .bool true]) rfl (by kernel_rfl) (by kernel_rfl) (by kernel_rfl) (by kernel_rfl) (fun _ _ _ h => h) (by assumption) ⟨by rfl, ?_⟩ ?_
          · intro W hW
            go_simp
          try simp only [Act.put, List.setIfInBounds_toArray, List.set_cons_zero, List.set_cons_succ, List.getElem_toArray, List.getElem_cons_zero, List.getElem_cons_succ]
          refine anyR_take (i := 10) (.agg #[.int .i64 A0, .int .i64 A1]) rfl (by kernel_rfl) (by kernel_rfl) (by kernel_rfl) (by kernel_rfl) (fun _ _ _ h => h) (by assumption) ⟨by rfl, ?_⟩ ?_
          · intro W hW
            go_simp
          try simp only [Act.put, List.setIfInBounds_toArray, List.set_cons_zero, List.set_cons_succ, List.getElem_toArray, List.getElem_cons_zero, List.getElem_cons_succ]
          refine anyR_take (i := 11) (.bool true) rfl (by kernel_rfl) (by kernel_rfl) (by kernel_rfl) (by kernel_rfl) (fun _ _ _ h => h) (by assumption) ⟨by rfl, ?_⟩ ?_
          · intro W hW
            go_simp
          try simp only [Act.put, List.setIfInBounds_toArray, List.set_cons_zero, List.set_cons_succ, List.getElem_toArray, List.getElem_cons_zero, List.getElem_cons_succ]
          have N6 := Lib.hid (N5.out.below c1)
          have B6 := Lib.hid hS.1
          have q0 := N6.out.cells.1
          have q1 := N6.out.cells.2
          have f0 := N6.out.free 0
          have f1 := N6.out.free 1
          clear hS
          have GG := Lib.hid ((B6.out.setCell (p := ⟨g10, 0, none⟩) (by omega) (.int .i64 A0)).setCell (p := ⟨g10, 1, none⟩) (by omega) (.int .i64 A1))
          have hT := SS.out _ GG.out
          refine anyR_one (i := 13) (by kernel_rfl) rfl ?_
          intro K hK
          go_simp
          refine hK.out _ _ (fun _ => hT) ?_
          clear hT
          clear hK K
          try simp only [Act.put, List.setIfInBounds_toArray, List.set_cons_zero, List.set_cons_succ, List.getElem_toArray, List.getElem_cons_zero, List.getElem_cons_succ]
          refine anyR_one (i := 14) (by kernel_rfl) rfl ?_
          intro K hK
          go_simp
          refine hK.out _ _ (fun h => absurd h (by decide)) ?_
          clear hK K
          try simp only [Act.put, List.setIfInBounds_toArray, List.set_cons_zero, List.set_cons_succ, List.getElem_toArray, List.getElem_cons_zero, List.getElem_cons_succ]
          refine anyR_done (by kernel_rfl) ?_ _
          refine NoPanic.normal ?_
          obtain ⟨p1, g1⟩ := N6.out.set0 (.int .i64 A0)
          obtain ⟨p2, g2⟩ := p1.set1 (.int .i64 A1)
          have P2 := Lib.hid p2
          clear p1 g1 p2 g2 q0 q1 f0 f1
          go_wp2_with fail
          go_meet
          case rel => exact ⟨g10, rfl, rfl, by omega, P2.out, GG.out⟩
      case rest =>
      obtain ⟨g10, rfl, rfl, hg10, hv, hwx⟩ := hcut
      have V8 := Lib.hid hv
      have L8 := Lib.hid (LI.out.below hwx)
      have BX := Lib.hid hwx
      have z0 := hv.cells.1
      have z1 := hv.cells.2
      have l0 := L8.out.cells.1
      have l1 := L8.out.cells.2
      clear hv hwx SS PA LI
      go_wp2_with fail
      refine (CM.out _).mono ?_
      rintro _ w6 ⟨rfl, b6⟩
      have V9 := Lib.hid (V8.out.below b6)
      have L9 := Lib.hid (L8.out.below b6)
      have BY := Lib.hid (bel_trans BX.out b6)
      clear b6 z0 z1 l0 l1 V8 L8 BX CM
      obtain ⟨wo, rfl⟩ : ∃ z, z = wr := ⟨_, rfl⟩
      obtain ⟨X0, rfl⟩ : ∃ z, z = A0 := ⟨_, rfl⟩
      obtain ⟨X1, rfl⟩ : ∃ z, z = A1 := ⟨_, rfl⟩
      obtain ⟨gp, rfl⟩ : ∃ z, z = g10 := ⟨_, rfl⟩
      go_wp2_with fail
      go_loopw [14] (fun s14 wr => ∃ p : Nat, p ≤ m ∧ s14 = .int .i64 p ∧ Below w6.heap.size w6 wr) (fun t _ => m - (intOf t).toNat)
      case atStart => exact ⟨0, Nat.zero_le _, rfl, Below.refl _ _⟩
      case round =>
        obtain ⟨p, hp, rfl, hb⟩ := hrel
        have B6 := Lib.hid hb
        have BZ := Lib.hid (bel_trans BY.out hb)
        have CJ := Lib.hid (CI.out.below BZ.out)
        have y1 := CJ.out.cell 1 rfl
        clear hb
        by_cases hpm : p < m
        · have d1 := decide_eq_true (show (p : Int) < (m : Int) by omega)
          obtain ⟨V, hV⟩ : ∃ o, paO e L k (D, P) p = o := ⟨_, rfl⟩
          have PA0 := fun W (hW : Below wr.heap.size wr W) => PAF.out W (bel_trans BZ.out hW) p hpm
          simp only [hV, prV_eq] at PA0
          obtain ⟨A0, hA0⟩ : ∃ z, prN D V = z := ⟨_, rfl⟩
          obtain ⟨A1, hA1⟩ : ∃ z, prM D V = z := ⟨_, rfl⟩
          obtain ⟨bb, hbb⟩ : ∃ z, V.isSome = z := ⟨_, rfl⟩
          simp only [hA0, hA1, hbb] at PA0
          have PA := Lib.hid PA0
          have HPV := Lib.hid (And.intro hA0 (And.intro hA1 hbb))
          have HV := Lib.hid hV
          have SS := Lib.hid (fun W (hW : Below wr.heap.size wr W) => (show Below wr.heap.size wr W ∧ W.cell? ⟨ge, 0, none⟩ = some (.int .i64 e.mon) ∧ W.cell? ⟨ge, 1, none⟩ = some (.slice CA m cc) ∧ W.cell? ⟨ge, 2, none⟩ = some (.slice AA n ac) from
            ⟨hW, (CJ.out.below hW).cell 0 rfl, (CJ.out.below hW).cell 1 rfl, (CJ.out.below hW).cell 2 rfl⟩))
          clear hV PA0 hA0 hA1 hbb
          go_upto_region 18 with fail
          go_cut [15, 16] from 71 to 117 (fun s15 s16 wx => ∃ g10 : Nat, s15 = .pointer (some ⟨g10, 0, none⟩) ∧ s16 = .bool bb ∧ wr.heap.size ≤ g10 ∧ BO 32 wx g10 (.int .i64 A0) (.int .i64 A1) ∧ Below wr.heap.size wr wx)
          case first =>
            refine wp_region_noPanic ?_
            refine wp_region_R (inFirst (fun W => Below wr.heap.size wr W ∧ W.cell? ⟨ge, 0, none⟩ = some (.int .i64 e.mon) ∧ W.cell? ⟨ge, 1, none⟩ = some (.slice CA m cc) ∧ W.cell? ⟨ge, 2, none⟩ = some (.slice AA n ac)) 11) (by kernel_rfl) ?_
            have hS := SS.out wr.drew ⟨rfl, rfl, rfl, Nat.le_refl _, fun _ _ => rfl⟩
            obtain ⟨v0, hv0⟩ : ∃ x, wr.drew = x := ⟨_, rfl⟩
            rw [hv0] at hS
            rw [hv0]
            clear hv0
            refine anyR_take (i := 0) (.agg #[.int .i64 e.mon, .slice CA m cc, .slice AA n ac]) rfl (by kernel_rfl) (by kernel_rfl) (by kernel_rfl) (by kernel_rfl) (fun _ _ _ h => h) (by assumption) ⟨by rfl, ?_⟩ ?_
            · intro W hW
              go_simp
            try simp only [Act.put, List.setIfInBounds_toArray, List.set_cons_zero, List.set_cons_succ, List.getElem_toArray, List.getElem_cons_zero, List.getElem_cons_succ]
            refine anyR_take (i := 1) (.slice (some ⟨gO, 0, none⟩) L.length oc) rfl (by kernel_rfl) (by kernel_rfl) (by kernel_rfl) (by kernel_rfl) (fun _ _ _ h => h) (by assumption) ⟨by rfl, ?_⟩ ?_
            · intro W hW
              go_simp
            try simp only [Act.put, List.setIfInBounds_toArray, List.set_cons_zero, List.set_cons_succ, List.getElem_toArray, List.getElem_cons_zero, List.getElem_cons_succ]
            refine anyR_take (i := 2) (.int .i64 (k : Nat)) rfl (by kernel_rfl) (by kernel_rfl) (by kernel_rfl) (by kernel_rfl) (fun _ _ _ h => h) (by assumption) ⟨by rfl, ?_⟩ ?_
            · intro W hW
              go_simp
            try simp only [Act.put, List.setIfInBounds_toArray, List.set_cons_zero, List.set_cons_succ, List.getElem_toArray, List.getElem_cons_zero, List.getElem_cons_succ]
            refine anyR_take (i := 3) (.slice (some ⟨gO, 0, none⟩) k oc) rfl (by kernel_rfl) (by kernel_rfl) (by kernel_rfl) (by kernel_rfl) (fun _ _ _ h => h) (by assumption) ⟨by rfl, ?_⟩ ?_
            · intro W hW
              go_simp
            try simp only [Act.put, List.setIfInBounds_toArray, List.set_cons_zero, List.set_cons_succ, List.getElem_toArray, List.getElem_cons_zero, List.getElem_cons_succ]
            refine anyR_take (i := 4) (.int .i64 (p : Nat)) rfl (by kernel_rfl) (by kernel_rfl) (by kernel_rfl) (by kernel_rfl) (fun _ _ _ h => h) (by assumption) ⟨by rfl, ?_⟩ ?_
            · intro W hW
              go_simp
            try simp only [Act.put, List.setIfInBounds_toArray, List.set_cons_zero, List.set_cons_succ, List.getElem_toArray, List.getElem_cons_zero, List.getElem_cons_succ]
            refine anyR_two (i := 5) (j := 9) (by kernel_rfl) rfl rfl ?_ ?_
            · intro K hK
              go_simp
              go_at_call 9
              refine (PA.out _ hS.1).mono ?_
              rintro _ v1 ⟨rfl, c1⟩
              have hT := SS.out v1 (bel_trans hS.1 c1)
              refine hK.out _ _ (fun _ => hT) ?_
              clear hS
              have hS := hT
              clear hT
              clear hK K
              try simp only [Act.put, List.setIfInBounds_toArray, List.set_cons_zero, List.set_cons_succ, List.getElem_toArray, List.getElem_cons_zero, List.getElem_cons_succ]
              refine anyR_take (i := 6) (.tuple #[.agg #[.int .i64 A0, .int .i64 A1], .bool bb]) rfl (by kernel_rfl) (by kernel_rfl) (by kernel_rfl) (by kernel_rfl) (fun _ _ _ h => h) (by assumption) ⟨by rfl, ?_⟩ ?_
              · intro W hW
                go_simp
              try simp only [Act.put, List.setIfInBounds_toArray, List.set_cons_zero, List.set_cons_succ, List.getElem_toArray, List.getElem_cons_zero, List.getElem_cons_succ]
              refine anyR_take (i := 7) (.agg #[.int .i64 A0, .int .i64 A1]) rfl (by kernel_rfl) (by kernel_rfl) (by kernel_rfl) (by kernel_rfl) (fun _ _ _ h => h) (by assumption) ⟨by rfl, ?_⟩ ?_
              · intro W hW
                go_simp
              try simp only [Act.put, List.setIfInBounds_toArray, List.set_cons_zero, List.set_cons_succ, List.getElem_toArray, List.getElem_cons_zero, List.getElem_cons_succ]
              refine anyR_take (i := 8) (.bool bb) rfl (by kernel_rfl) (by kernel_rfl) (by kernel_rfl) (by kernel_rfl) (fun _ _ _ h => h) (by assumption) ⟨by rfl, ?_⟩ ?_
              · intro W hW
                go_simp
              try simp only [Act.put, List.setIfInBounds_toArray, List.set_cons_zero, List.set_cons_succ, List.getElem_toArray, List.getElem_cons_zero, List.getElem_cons_succ]
              refine anyR_one (i := 9) (by kernel_rfl) rfl ?_
              intro K hK
              go_simp
              have c5 := bel_alloc v1 (.cells #[.int .i64 0, .int .i64 0] 32)
              have N5 := Lib.hid (BO.new 32 v1 (.int .i64 0) (.int .i64 0))
              have gz5 := hS.1.size
              obtain ⟨g10, hg10⟩ : ∃ z, (v1).heap.size = z := ⟨_, rfl⟩
              obtain ⟨v5, hv5⟩ : ∃ z, (v1).alloc (.cells #[.int .i64 0, .int .i64 0] 32) = z := ⟨_, rfl⟩
              rw [hv5] at c5 N5
              rw [hv5]
              rw [hg10] at N5 gz5
              try rw [hg10]
              clear hv5 hg10
              have hT := SS.out v5 (bel_trans hS.1 c5)
              refine hK.out _ _ (fun _ => hT) ?_
              clear hS
              have hS := hT
              clear hT
              clear hK K
              try simp only [Act.put, List.setIfInBounds_toArray, List.set_cons_zero, List.set_cons_succ, List.getElem_toArray, List.getElem_cons_zero, List.getElem_cons_succ]
              have N6 := Lib.hid (N5.out)
              have B6 := Lib.hid hS.1
              have q0 := N6.out.cells.1
              have q1 := N6.out.cells.2
              have f0 := N6.out.free 0
              have f1 := N6.out.free 1
              clear hS
              have GG := Lib.hid ((B6.out.setCell (p := ⟨g10, 0, none⟩) (by omega) (.int .i64 A0)).setCell (p := ⟨g10, 1, none⟩) (by omega) (.int .i64 A1))
              have hT := SS.out _ GG.out
              refine anyR_one (i := 10) (by kernel_rfl) rfl ?_
              intro K hK
              go_simp
              refine hK.out _ _ (fun _ => hT) ?_
              clear hT
              clear hK K
              try simp only [Act.put, List.setIfInBounds_toArray, List.set_cons_zero, List.set_cons_succ, List.getElem_toArray, List.getElem_cons_zero, List.getElem_cons_succ]
              refine anyR_one (i := 11) (by kernel_rfl) rfl ?_
              intro K hK
              go_simp
              refine hK.out _ _ (fun h => absurd h (by decide)) ?_
              clear hK K
              try simp only [Act.put, List.setIfInBounds_toArray, List.set_cons_zero, List.set_cons_succ, List.getElem_toArray, List.getElem_cons_zero, List.getElem_cons_succ]
              refine anyR_done (by kernel_rfl) ?_ _
              refine NoPanic.normal ?_
              obtain ⟨p1, g1⟩ := N6.out.set0 (.int .i64 A0)
              obtain ⟨p2, g2⟩ := p1.set1 (.int .i64 A1)
              have P2 := Lib.hid p2
              clear p1 g1 p2 g2 q0 q1 f0 f1
              go_wp2_with fail
              go_meet
              case rel => exact ⟨g10, rfl, rfl, by omega, P2.out, GG.out⟩
            · intro K hK
              go_simp
              have c5 := bel_alloc v0 (.cells #[.int .i64 0, .int .i64 0] 32)
              have N5 := Lib.hid (BO.new 32 v0 (.int .i64 0) (.int .i64 0))
              have gz5 := hS.1.size
              obtain ⟨g10, hg10⟩ : ∃ z, (v0).heap.size = z := ⟨_, rfl⟩
              obtain ⟨v5, hv5⟩ : ∃ z, (v0).alloc (.cells #[.int .i64 0, .int .i64 0] 32) = z := ⟨_, rfl⟩
              rw [hv5] at c5 N5
              rw [hv5]
              rw [hg10] at N5 gz5
              try rw [hg10]
              clear hv5 hg10
              have hT := SS.out v5 (bel_trans hS.1 c5)
              refine hK.out _ _ (fun _ => hT) ?_
              clear hS
              have hS := hT
              clear hT
              clear hK K
              try simp only [Act.put, List.setIfInBounds_toArray, List.set_cons_zero, List.set_cons_succ, List.getElem_toArray, List.getElem_cons_zero, List.getElem_cons_succ]
              refine anyR_one (i := 5) (by kernel_rfl) rfl ?_
              intro K hK
              go_simp
              go_at_call 9
              refine (PA.out _ hS.1).mono ?_
              rintro _ v1 ⟨rfl, c1⟩
              have hT := SS.out v1 (bel_trans hS.1 c1)
              refine hK.out _ _ (fun _ => hT) ?_
              clear hS
              have hS := hT
              clear hT
              clear hK K
              try simp only [Act.put, List.setIfInBounds_toArray, List.set_cons_zero, List.set_cons_succ, List.getElem_toArray, List.getElem_cons_zero, List.getElem_cons_succ]
              refine anyR_take (i := 6) (.tuple #[.agg #[.int .i64 A0, .int .i64 A1], .bool bb]) rfl (by kernel_rfl) (by kernel_rfl) (by kernel_rfl) (by kernel_rfl) (fun _ _ _ h => h) (by assumption) ⟨by rfl, ?_⟩ ?_
              · intro W hW
                go_simp
              try simp only [Act.put, List.setIfInBounds_toArray, List.set_cons_zero, List.set_cons_succ, List.getElem_toArray, List.getElem_cons_zero, List.getElem_cons_succ]
              refine anyR_take (i := 7) (.agg #[.int .i64 A0, .int .i64 A1]) rfl (by kernel_rfl) (by kernel_rfl) (by kernel_rfl) (by kernel_rfl) (fun _ _ _ h => h) (by assumption) ⟨by rfl, ?_⟩ ?_
              · intro W hW
                go_simp
              try simp only [Act.put, List.setIfInBounds_toArray, List.set_cons_zero, List.set_cons_succ, List.getElem_toArray, List.getElem_cons_zero, List.getElem_cons_succ]
              refine anyR_take (i := 8) (.bool bb) rfl (by kernel_rfl) (by kernel_rfl) (by kernel_rfl) (by kernel_rfl) (fun _ _ _ h => h) (by assumption) ⟨by rfl, ?_⟩ ?_
              · intro W hW
                go_simp
              try simp only [Act.put, List.setIfInBounds_toArray, List.set_cons_zero, List.set_cons_succ, List.getElem_toArray, List.getElem_cons_zero, List.getElem_cons_succ]
              have N6 := Lib.hid (N5.out.below c1)
              have B6 := Lib.hid hS.1
              have q0 := N6.out.cells.1
              have q1 := N6.out.cells.2
              have f0 := N6.out.free 0
              have f1 := N6.out.free 1
              clear hS
              have GG := Lib.hid ((B6.out.setCell (p := ⟨g10, 0, none⟩) (by omega) (.int .i64 A0)).setCell (p := ⟨g10, 1, none⟩) (by omega) (.int .i64 A1))
              have hT := SS.out _ GG.out
              refine anyR_one (i := 10) (by kernel_rfl) rfl ?_
              intro K hK
              go_simp
              refine hK.out _ _ (fun _ => hT) ?_
              clear hT
              clear hK K
              try simp only [Act.put, List.setIfInBounds_toArray, List.set_cons_zero, List.set_cons_succ, List.getElem_toArray, List.getElem_cons_zero, List.getElem_cons_succ]
              refine anyR_one (i := 11) (by kernel_rfl) rfl ?_
              intro K hK
              go_simp
              refine hK.out _ _ (fun h => absurd h (by decide)) ?_
              clear hK K
              try simp only [Act.put, List.setIfInBounds_toArray, List.set_cons_zero, List.set_cons_succ, List.getElem_toArray, List.getElem_cons_zero, List.getElem_cons_succ]
              refine anyR_done (by kernel_rfl) ?_ _
              refine NoPanic.normal ?_
              obtain ⟨p1, g1⟩ := N6.out.set0 (.int .i64 A0)
              obtain ⟨p2, g2⟩ := p1.set1 (.int .i64 A1)
              have P2 := Lib.hid p2
              clear p1 g1 p2 g2 q0 q1 f0 f1
              go_wp2_with fail
              go_meet
              case rel => exact ⟨g10, rfl, rfl, by omega, P2.out, GG.out⟩
          case rest =>
          obtain ⟨g15, rfl, rfl, hg15, hv, hwx⟩ := hcut
          have VX := Lib.hid hv
          have B6X := Lib.hid (bel_trans B6.out hwx)
          have BZX := Lib.hid (bel_trans BZ.out hwx)
          clear hv hwx SS PA
          cases V with
          | none =>
            obtain ⟨rfl, rfl, rfl⟩ := HPV.out
            have nf : (!(none : Option (Int × Nat)).isSome) = true := rfl
            have NI := prik_none OW.out HF.out.1 hk PK.out (show p < e.cs.length by omega) HV.out
            have AF : ((zns L).drop k).any (· == (p : Int)) = false := by
              rw [List.any_eq_false]
              intro y hy
              have e1 : (zns L).drop k = zns (L.drop k) := by unfold zns; rw [List.map_drop]
              rw [e1] at hy
              obtain ⟨z, hz, rfl⟩ := List.mem_map.1 hy
              have : z ≠ p := fun h => NI (h ▸ hz)
              simp
              omega
            have BH0 := b10Has_any (some ⟨gO, k, none⟩) (L.length - k) (oc - k) ((zns L).drop k) p wc ((O5.out.below (bel_trans BI.out BZX.out)).ints.backE hk (L.length - k) rfl (some ⟨gO, k, none⟩) (by intro _; simp))
            rw [AF] at BH0
            have BH := Lib.hid BH0
            clear NI AF BH0
            go_wp2_with fail
            refine BH.out.mono ?_
            rintro _ w7 ⟨rfl, rfl⟩
            go_wp2_with fail
            go_roundw
            case rel => exact ⟨p + 1, by omega, by go_num, B6X.out⟩
            case measure => simp [intOf]; omega
          | some v =>
            obtain ⟨r', m'⟩ := v
            obtain ⟨hA0, hA1, rfl⟩ := HPV.out
            have hA0 : redN r' (D * (m' : Int)) = A0 := hA0
            have hA1 : redD r' (D * (m' : Int)) = A1 := hA1
            obtain ⟨s1, s2, s3⟩ := prik_some PK.out (show p < e.cs.length by omega) HV.out
            have PS := price_some PK.out.st.ok OW.out (show p < e.cs.length by omega) s3
            obtain ⟨p1, p6, rr0, rr1, _, _⟩ := PS
            have rr1 : r' ≤ 60 * D := rr1
            have Do1 := Int.mul_pos (a := D) (b := (m' : Int)) (by omega) (by omega)
            have Do2 := Int.mul_le_mul_of_nonneg_left (show (m' : Int) ≤ 6 by omega) (show 0 ≤ D by omega)
            have VO : Va r' (D * (m' : Int)) := ⟨by omega, by omega, by omega, by omega⟩
            have CM0 := fun W => cmpF2_ok VP.out VO W
            obtain ⟨q2, hq2⟩ : ∃ z, cmpI (r * (D * (m' : Int))) (r' * (D * (mq : Int))) = z := ⟨_, rfl⟩
            have e1 : r * (D * (m' : Int)) = r * m' * D := by ac_rfl
            have e2 : r' * (D * (mq : Int)) = r' * mq * D := by ac_rfl
            have q20 : q2 ≤ 0 := by
              rw [← hq2, e1, e2]
              have := Int.mul_le_mul_of_nonneg_right s1 (show 0 ≤ D by omega)
              unfold cmpI
              split
              · omega
              · rw [if_neg (by omega)]; omega
            have q21 : q2 = 0 → x ≤ p := by
              intro h0
              rw [← hq2, e1, e2] at h0
              apply s2
              unfold cmpI at h0
              rcases Int.lt_or_le (r * m' * D) (r' * mq * D) with h1 | h1
              · rw [if_pos h1] at h0; omega
              · have h2 := Int.le_of_mul_le_mul_right h1 (show 0 < D by omega)
                omega
            unfold FV at CM0
            rw [HAA.out.1, HAA.out.2, hA0, hA1, hq2] at CM0
            have CM := Lib.hid CM0
            have VP2 := V9.out.below B6X.out
            have v0 := VP2.cells.1
            have v1 := VP2.cells.2
            have u0 := VX.out.cells.1
            have u1 := VX.out.cells.2
            have nf : (!(some (r', m')).isSome) = false := rfl
            have dq2 := decide_eq_false (show ¬ 0 < q2 by omega)
            have EW := bel_trans BI.out BZX.out
            have cO2 := (EW.cell (p := ⟨gO, k, none⟩) gO1).trans (O5.out.cell (zns_at HX.out))
            have gOW : gO < wc.heap.size := Nat.lt_of_lt_of_le gO1 EW.size
            clear hA0 hA1 s1 s2 s3 Do1 Do2 VO CM0 hq2 e1 e2 VP2 EW y1
            by_cases hq0 : q2 = 0
            · have xp := q21 hq0
              have dqe := decide_eq_true hq0
              have dqb : (q2 == 0) = true := by simp [hq0]
              have dpx := decide_eq_false (show ¬ (p : Int) < (x : Int) by omega)
              have dpx2 := decide_eq_false (show ¬ p < x by omega)
              clear hq0 q21
              go_wp2_with fail
              refine (CM.out _).mono ?_
              rintro _ w7 ⟨rfl, b7⟩
              have cO3 := (b7.cell (p := ⟨gO, k, none⟩) gOW).trans cO2
              have B7 := Lib.hid (bel_trans B6X.out b7)
              clear b7 v0 v1 u0 u1
              go_wp2_with fail
              go_roundw
              case rel => exact ⟨p + 1, by omega, by go_num, B7.out⟩
              case measure => simp [intOf]; omega
            · have dqe := decide_eq_false hq0
              have dqb : (q2 == 0) = false := by simp [hq0]
              clear hq0 q21
              go_wp2_with fail
              refine (CM.out _).mono ?_
              rintro _ w7 ⟨rfl, b7⟩
              have B7 := Lib.hid (bel_trans B6X.out b7)
              clear b7 v0 v1 u0 u1
              go_wp2_with fail
              go_roundw
              case rel => exact ⟨p + 1, by omega, by go_num, B7.out⟩
              case measure => simp [intOf]; omega
        · obtain rfl : m = p := by omega
          have d1 := decide_eq_false (show ¬ (m : Int) < (m : Int) by omega)
          have VE := V9.out.below B6.out
          have LE := L9.out.below B6.out
          have v0 := VE.cells.1
          have v1 := VE.cells.2
          have l0 := LE.cells.1
          have l1 := LE.cells.2
          have f0 := LE.free 0
          have f1 := LE.free 1
          have ST := Lib.hid (show BO 32 ((wr.setCell ⟨g8, 0, none⟩ (.int .i64 X0)).setCell ⟨g8, 1, none⟩ (.int .i64 X1)) g8 (.int .i64 X0) (.int .i64 X1) from by
            obtain ⟨p1, _⟩ := LE.set0 (.int .i64 X0)
            obtain ⟨p2, _⟩ := p1.set1 (.int .i64 X1)
            exact p2)
          have BN := Lib.hid (((bel_trans BI.out BZ.out).setCell (p := ⟨g8, 0, none⟩) (by show w5.heap.size ≤ g8; have := HG8.out; omega) (.int .i64 X0)).setCell (p := ⟨g8, 1, none⟩) (by show w5.heap.size ≤ g8; have := HG8.out; omega) (.int .i64 X1))
          have NXT := Lib.hid (show ∀ x' S r' m', L[k + 1]? = some x' → PriK e L (k + 1) x' S r' m' → r * (S.1 * m') ≤ r' * (D * (mq : Int)) from fun x' S r' m' hx' hp' => prik_next OW.out HF.out.1 HX.out hx' PK.out hp')
          have HNX := Lib.hid (And.intro HAA.out.1.symm HAA.out.2.symm)
          clear VE LE
          go_wp2_with fail
          go_roundw
          case rel => exact ⟨k + 1, X0, X1, r, D * (mq : Int), by omega, by go_num, ST.out, VP, HNX, NXT, BN.out⟩
          case measure => simp [intOf]; omega
    · obtain rfl : L.length = k := by omega
      have d0 := decide_eq_false (show ¬ (L.length : Int) < (L.length : Int) by omega)
      obtain ⟨⟨D, P⟩, hst⟩ := step_at OW.out HF.out.1 (Nat.le_refl L.length)
      have HST := Lib.hid hst
      have PAF := Lib.hid (fun W (hW : Below w5.heap.size w5 W) (p : Nat) (hp : p < m) => (show Calls Try.prog 9 #[.agg #[.int .i64 e.mon, .slice CA m cc, .slice AA n ac], .slice O L.length oc, .int .i64 p] W fun r w' => r = .returned (.tuple #[.agg #[.int .i64 0, .int .i64 0], .bool false]) ∧ Below W.heap.size W w' from by
        have e0 := eq_end OW.out HF.out HST.out (show p < e.cs.length by omega)
        unfold paO at e0
        rw [List.take_length] at e0
        have s1 := HST.out.st
        have s2 := HST.out.ok
        rw [List.take_length] at s1 s2
        have := priceAfter_ok CA m cc AA n ac e L O oc D P _ p W (HE5.out.below hW) OK.out (fun y hy => by rw [← hm]; exact EK.out.lt y hy) EK.out.nd L6 (O5.out.ints.below hW) s1 s2 hp
        rw [e0] at this
        exact this))
      clear hst LI HVA HNM HLE
      go_wp2_with fail
      go_loopw [19] (fun s19 wr => ∃ p : Nat, p ≤ m ∧ s19 = .int .i64 p ∧ Below w5.heap.size w5 wr) (fun t _ => m - (intOf t).toNat)
      case atStart => exact ⟨0, Nat.zero_le _, rfl, BI.out⟩
      case round =>
        obtain ⟨p, hp, rfl, hb⟩ := hrel
        have B6 := Lib.hid hb
        have CJ := Lib.hid (CE5.out.below hb)
        have y0 := CJ.out.cell 0 rfl
        have y1 := CJ.out.cell 1 rfl
        have y2 := CJ.out.cell 2 rfl
        clear hb BI CI
        by_cases hpm : p < m
        · have d1 := decide_eq_true (show (p : Int) < (m : Int) by omega)
          have PA := Lib.hid (PAF.out wr B6.out p hpm)
          go_wp2_with fail
          refine PA.out.mono ?_
          rintro _ w7 ⟨rfl, b7⟩
          have B8 := Lib.hid (bel_trans B6.out (bel_trans b7 (bel_alloc w7 (.cells #[.int .i64 0, .int .i64 0] 32))))
          clear b7 y0 y1 y2
          go_wp2_with fail
          go_roundw
          case rel => exact ⟨p + 1, by omega, by go_num, B8.out⟩
          case measure => simp [intOf]; omega
        · obtain rfl : m = p := by omega
          have d1 := decide_eq_false (show ¬ (m : Int) < (m : Int) by omega)
          have SH0 := shareOf_ok CA m cc AA n ac e wr (HE5.out.below B6.out) OK.out
          have mon := OK.out.mon
          have rv := red_val (n := e.mon) (d := (n : Int)) (by omega)
          have rb := red_bd (n := e.mon) (d := (n : Int)) (b := 60) (by omega) (by omega)
          have rd := redD_bd (n := e.mon) (d := (n : Int)) (b := 6) (by omega) (by omega)
          unfold FV at SH0
          obtain ⟨X0, hX0⟩ : ∃ z, redN e.mon (n : Int) = z := ⟨_, rfl⟩
          obtain ⟨X1, hX1⟩ : ∃ z, redD e.mon (n : Int) = z := ⟨_, rfl⟩
          rw [hX0, hX1] at SH0 rv
          rw [hX0] at rb
          rw [hX1] at rd
          have SH := Lib.hid SH0
          have w1' := mul_bd (x := X0) (y := (n : Int)) (M := 60) (E := 6) (by omega) (by omega) (by omega) (by omega)
          have w2' := mul_bd (x := e.mon) (y := X1) (M := 60) (E := 6) (by omega) (by omega) (by omega) (by omega)
          have W1 : IntKind.i64.wrap (X0 * (n : Int)) = X0 * (n : Int) := IntWalk.i64_in _ (by omega)
          have W2 : IntKind.i64.wrap (e.mon * X1) = e.mon * X1 := IntWalk.i64_in _ (by omega)
          have EQ : (X0 * (n : Int) == e.mon * X1) = true := by rw [rv]; simp
          have EQ2 : decide (X0 * (n : Int) = e.mon * X1) = true := decide_eq_true rv
          clear SH0 rv hX0 hX1 w1' w2'
          go_wp2_with fail
          refine SH.out.mono ?_
          rintro _ w7 ⟨rfl, b7⟩
          have ba := bel_alloc w7 (.cells #[.int .i64 X0, .int .i64 X1] 32)
          have C8 := CJ.out.below (bel_trans b7 ba)
          have N8 := BO.new 32 w7 (.int .i64 X0) (.int .i64 X1)
          have y0 := C8.cell 0 rfl
          have y1 := C8.cell 1 rfl
          have y2 := C8.cell 2 rfl
          have x0 := N8.cells.1
          have x1 := N8.cells.2
          have B8 := Lib.hid (bel_trans B5.out (bel_trans B6.out (bel_trans b7 ba)))
          clear b7 ba C8 N8
          go_wp2_with fail
          go_ret
          exact ⟨by first | rfl | (simp [EQ]) | (simp [EQ2]), B8.out⟩
end Go.Proofs.Ytiodbjfchfmlcaa
