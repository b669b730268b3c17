/- The price of a project, walked. -/
import Derived.Test.YtiodbjfchfmlcaaSrF
import Derived.Deep.Cut
import Derived.Deep.CutRange
namespace Go.Proofs.Ytiodbjfchfmlcaa
set_option linter.unusedVariables false
set_option linter.unusedSimpArgs false
set_option maxRecDepth 100000
open Go.RowKit Go.Deep
/-- Fractions that are read. -/
def FrsR (w : World) (A : Option Addr) (n c : Nat) (D : Int) (l : List Int) : Prop := Recs 2 w A n c (l.map (frv D))
theorem FrsO.read {w : World} {base n c : Nat} {A : Option Addr} {D : Int} {l : List Int} (h : FrsO w base A n c D l) : FrsR w A n c D l := OwnR.recs h
theorem FrsR.below {w w' : World} {n c : Nat} {A : Option Addr} {D : Int} {l : List Int} (h : FrsR w A n c D l) (hb : Below w.heap.size w w') : FrsR w' A n c D l := Recs.below h hb
theorem FrsR.at {w : World} {n c j : Nat} {A : Option Addr} {D a : Int} {l : List Int} (h : FrsR w A n c D l) (ha : l[j]? = some a) :
    ∃ b off, A = some ⟨b, off, none⟩ ∧ b < w.heap.size ∧ w.cell? ⟨b, off + j * 2, none⟩ = some (.int .i64 (redN a D)) ∧ w.cell? ⟨b, off + j * 2 + 1, none⟩ = some (.int .i64 (redD a D)) := by
  have hl := h.1
  rw [List.length_map] at hl
  have hj := (List.getElem?_eq_some_iff.1 ha).1
  obtain ⟨b, off, hA, hb, hc⟩ := h.2.2.2 (by omega)
  have hr : (l.map (frv D))[j]? = some (frv D a) := by rw [List.getElem?_map, ha]; rfl
  exact ⟨b, off, hA, hb, hc j 0 _ _ hr rfl, hc j 1 _ _ hr rfl⟩
/-- A price as the program tells it. -/
def prV (D : Int) : Option (Int × Nat) → Value
  | none => .tuple #[.agg #[.int .i64 0, .int .i64 0], .bool false]
  | some (r, m) => .tuple #[FV r (D * m), .bool true]
theorem six7 {k : Nat} (h : k ≤ 6) : (6 : Int) ^ (k + 1) ≤ 279936 := by
  have := six_pow (show k + 1 ≤ 7 by omega)
  have e : (6 : Int) ^ 7 = 279936 := by decide
  omega
theorem gr_own {a b c : World} {r : Nat} {r2 : Option Nat} (h : a.grownBy b (some r)) (k : b.grownBy c r2) (hr : ∀ y, r2 = some y → y = r ∨ a.heap.size ≤ y) : a.grownBy c (some r) :=
  ⟨k.os.trans h.os, k.tape.trans h.tape, k.output.trans h.output, Nat.le_trans h.size k.size, fun j hj hne => (k.block j (Nat.lt_of_lt_of_le hj h.size) (fun e => by
    rcases hr j e.symm with h1 | h1
    · exact hne (by rw [h1])
    · omega)).trans (h.block j hj hne)⟩
theorem prc_app {w2 wr w4 : World} {r g g' i lc c' : Nat} (OR : g = r ∨ w2.heap.size ≤ g) (GI : w2.grownBy wr (some r)) (p2 : wr.grownBy w4 (Value.slice (some ⟨g, 0, none⟩) i lc).ownBlock)
    (p3 : NewBlk wr (.slice (some ⟨g, 0, none⟩) i lc) (.slice (some ⟨g', 0, none⟩) (i + 1) c')) : w2.grownBy w4 (some r) ∧ (g' = r ∨ w2.heap.size ≤ g') := by
  have hz := GI.size
  refine ⟨gr_own GI p2 (fun y hy => by injection hy with hy; have hy' : g = y := hy; omega), ?_⟩
  rcases p3 with h1 | ⟨q, h1, h2⟩
  · injection h1 with h1; have h1' : g' = g := h1; omega
  · injection h1 with h1; have h1' : g' = q := h1; omega
set_option maxHeartbeats 8000000 in
theorem price_ok (CA : Option Addr) (m cc : Nat) (AA : Option Addr) (n ac : Nat) (e : El) (x : Nat) (PA : Option Addr) (pc : Nat) (D : Int) (P : List Int) (k : Nat) (cst : Int) (w : World) (h : ElW w CA m cc AA n ac e) (ok : EOk' e) (hx : x < m) (hk : k ≤ 6) (st : StOk e k cst (D, P)) (hp : FrsR w PA n pc D P) :
    Calls Try.prog 29 #[.agg #[.int .i64 e.mon, .slice CA m cc, .slice AA n ac], .int .i64 x, .slice PA n pc] w fun r w' => r = .returned (prV D (priceS e.cs e.ap (D, P) x)) ∧ Below w.heap.size w w' := by
  have hm := h.cl
  have hn := h.al
  have h6 := ok.cs1
  have a6 := ok.ap1
  have n6 : n ≤ 6 := by omega
  have m6 : m ≤ 6 := by omega
  have d1 : 1 ≤ D := st.d1
  have d2 : D ≤ 279936 := Int.le_trans st.d2 (six7 hk)
  have mon := ok.mon
  have PB := Lib.hid (fun (v : Nat) => (show 0 ≤ P.getD v 0 ∧ P.getD v 0 ≤ e.mon * D from st.at ok v))
  have PL := Lib.hid (show P.length = n by rw [← hn]; exact st.len)
  have SN := Lib.hid (show ∀ p ∈ srtI (supP P e.ap x), 0 ≤ p from fun p hp => supP_nonneg st ok x p hp)
  have XC := Lib.hid (ok.costx (show x < e.cs.length by omega))
  have MD : e.mon * D ≤ 360 * D := Int.mul_le_mul_of_nonneg_right mon.2 (by omega)
  have SB := Lib.hid (show ∀ p ∈ supP P e.ap x, Sm p D from fun p hp => by
    obtain ⟨v, _, rfl⟩ := List.mem_map.1 hp
    have := PB.out v
    exact ⟨d1, by omega, by omega, by omega⟩)
  have b0 := bel_alloc w (.cells #[.int .i64 e.mon, .slice CA m cc, .slice AA n ac] 27)
  have bf := bel_alloc (w.alloc (.cells #[.int .i64 e.mon, .slice CA m cc, .slice AA n ac] 27)) (.cells #[.int .i64 0, .int .i64 0] 32)
  have CE0 := (Cs.new w [.int .i64 e.mon, .slice CA m cc, .slice AA n ac] 27).below bf
  have RS0 := BO.new 32 (w.alloc (.cells #[.int .i64 e.mon, .slice CA m cc, .slice AA n ac] 27)) (.int .i64 0) (.int .i64 0)
  have b1 := bel_trans b0 bf
  have bl := bel_alloc ((w.alloc (.cells #[.int .i64 e.mon, .slice CA m cc, .slice AA n ac] 27)).alloc (.cells #[.int .i64 0, .int .i64 0] 32)) (.cells #[] 32)
  have FL := frsO_lit ((w.alloc (.cells #[.int .i64 e.mon, .slice CA m cc, .slice AA n ac] 27)).alloc (.cells #[.int .i64 0, .int .i64 0] 32)) D
  simp only [List.toArray] at CE0
  rw [show (w.alloc (.cells #[.int .i64 e.mon, .slice CA m cc, .slice AA n ac] 27)).heap.size = w.heap.size + 1 by simp] at RS0
  rw [show ((w.alloc (.cells #[.int .i64 e.mon, .slice CA m cc, .slice AA n ac] 27)).alloc (.cells #[.int .i64 0, .int .i64 0] 32)).heap.size = w.heap.size + 1 + 1 by simp] at FL
  have CE1 := Lib.hid (CE0.below bl)
  have RS1 := Lib.hid (RS0.below bl)
  have B1 := Lib.hid (bel_trans b1 bl)
  have H1 := Lib.hid (h.below (bel_trans b1 bl))
  have P0 := Lib.hid hp
  have H0 := Lib.hid h
  have F1 := Lib.hid FL
  clear h ok st hp b0 bf CE0 RS0 b1 bl FL
  go_enter Try.func29, Try.ntmps29
  go_upto_region 2 with fail
  obtain ⟨ge, hge⟩ : ∃ z, w.heap.size = z := ⟨_, rfl⟩
  obtain ⟨w1, hw1⟩ : ∃ z, ((w.alloc (.cells #[.int .i64 e.mon, .slice CA m cc, .slice AA n ac] 27)).alloc (.cells #[.int .i64 0, .int .i64 0] 32)).alloc (.cells #[] 32) = z := ⟨_, rfl⟩
  have HGE := Lib.hid hge
  rw [hw1] at CE1 RS1 B1 H1 F1
  rw [hge] at CE1 RS1 F1
  rw [hw1]
  rw [hge]
  have LW1 : ge + 1 + 1 < w1.heap.size := (F1.out.block (ge + 1 + 1) rfl).2
  clear hw1 hge
  have y0 := CE1.out.cell 0 rfl
  have y1 := CE1.out.cell 1 rfl
  have y2 := CE1.out.cell 2 rfl
  have SU := Lib.hid (supporters_ok e.mon CA m cc AA n ac e.ap x w1 H1.out.a (by omega))
  go_wp2_with fail
  refine SU.out.mono ?_
  rintro r w2 ⟨SA, Ls, sc, rfl, hs, b2⟩
  have CE2 := Lib.hid (CE1.out.below b2)
  have RS2 := Lib.hid (RS1.out.below b2)
  have B2 := Lib.hid (bel_trans B1.out b2)
  have H2 := Lib.hid (H1.out.below b2)
  have F2 := Lib.hid (F1.out.below b2)
  have S2 := Lib.hid hs
  have HLS := Lib.hid (show (supN e.ap (x : Int) n).length = Ls by have := hs.len; rwa [zns_len] at this)
  have Ls6 : Ls ≤ 6 := by have := supN_len e.ap (x : Int) n; have := HLS.out; omega
  have z2 := b2.size
  clear hs b2 SU CE1 RS1 B1 H1 F1 y0 y1 y2
  go_wp2_with fail
  go_loopw [8, 20] (fun s8 t wr => ∃ (i g lc : Nat), i ≤ Ls ∧ s8 = .slice (some ⟨g, 0, none⟩) i lc ∧ t = .int .i64 i ∧ FrsO wr (ge + 1 + 1) (some ⟨g, 0, none⟩) i lc D (((supN e.ap (x : Int) n).take i).map fun v => P.getD v 0) ∧ (g = ge + 1 + 1 ∨ w2.heap.size ≤ g) ∧ w2.grownBy wr (some (ge + 1 + 1))) (fun _ t _ => Ls - (intOf t).toNat)
  case atStart => exact ⟨0, ge + 1 + 1, 0, Nat.zero_le _, rfl, rfl, F2.out, .inl rfl, World.grownBy.refl _ _⟩
  case round =>
    obtain ⟨i, g, lc, hi, rfl, rfl, hf, hor, hg⟩ := hrel
    have FI := Lib.hid hf
    have GI := Lib.hid hg
    have OR := Lib.hid hor
    have hbz := hg.size
    have gz2 : ge + 1 + 1 ≤ wr.heap.size := by omega
    have CE3 := Lib.hid (CE2.out.kept hg (by intro e; injection e with e; omega))
    have RS3 := Lib.hid (RS2.out.far hg (by omega))
    have S3 := Lib.hid (S2.out.kept hg (blk_neP (fun x hx => (S2.out.block x hx).1) LW1))
    have BW := Lib.hid (B2.out.grown hg B2.out.size (fun x hx => by injection hx with hx; have := HGE.out; omega))
    clear hf hg hor F2
    by_cases hil : i < Ls
    · have d0 := decide_eq_true (show (i : Int) < (Ls : Int) by omega)
      obtain ⟨v, hvx⟩ : ∃ v, (supN e.ap (x : Int) n)[i]? = some v := ⟨_, List.getElem?_eq_getElem (by rw [HLS.out]; exact hil)⟩
      have hvn := (supN_mem (List.mem_of_getElem? hvx)).1
      obtain ⟨bS, oS, rfl, hbS, cS6⟩ := ints_get' S3.out.ints (zns_at hvx)
      have pv : P[v]? = some (P.getD v 0) := by rw [List.getD_eq_getElem?_getD, List.getElem?_eq_getElem (by rw [PL.out]; exact hvn)]; rfl
      obtain ⟨bP, oP, rfl, hbP, cp0, cp1⟩ := (P0.out.below BW.out).at pv
      obtain ⟨N, hN⟩ : ∃ z, redN (P.getD v 0) D = z := ⟨_, rfl⟩
      obtain ⟨M, hM⟩ : ∃ z, redD (P.getD v 0) D = z := ⟨_, rfl⟩
      rw [hN] at cp0
      rw [hM] at cp1
      have HNM := Lib.hid (And.intro hN hM)
      have NX := Lib.hid (show (((supN e.ap (x : Int) n).take (i + 1)).map fun v => P.getD v 0) = (((supN e.ap (x : Int) n).take i).map fun v => P.getD v 0) ++ [P.getD v 0] by rw [List.take_add_one, hvx]; simp)
      have i0 : (0 : Int) ≤ (i : Int) := by omega
      have i1 : (i : Int) < (Ls : Int) := by omega
      have v0 : (0 : Int) ≤ (v : Int) := by omega
      have v1 : (v : Int) < (n : Int) := by omega
      clear hN hM pv hvx
      go_wp2_with (at_builtin; refine app_fr1 wr rfl _ _ rfl (ge + 1 + 1) (some ⟨g, 0, none⟩) i lc D _ rfl FI.out _ N M HNM.out.1 HNM.out.2 rfl (by omega) gz2 ?_; intro A' c' w4 p1 p2 p3; obtain ⟨g', rfl, _, _⟩ := OwnR.form p1 (by omega); have Q1 := Lib.hid p1; have Q2 := Lib.hid (prc_app OR.out GI.out p2 p3); clear p1 p2 p3)
      go_roundw
      case rel => exact ⟨i + 1, g', c', by omega, rfl, by go_num, by rw [NX.out]; exact Q1.out, Q2.out.2, Q2.out.1⟩
      case measure => simp [intOf]; omega
    · obtain rfl : Ls = i := by omega
      have d0 := decide_eq_false (show ¬ (Ls : Int) < (Ls : Int) by omega)
      have FE := FI.out
      rw [List.take_of_length_le (Nat.le_of_eq HLS.out)] at FE
      have FE2 : FrsO wr (ge + 1 + 1) (some ⟨g, 0, none⟩) Ls lc D (supP P e.ap x) := by
        unfold supP
        rw [hn]
        exact FE
      have SO := Lib.hid (sortFr_ok (ge + 1 + 1) g Ls lc D _ wr FE2 Ls6 SB.out)
      have gI : ge + 1 + 1 ≤ g := (FE2.block g rfl).1
      clear FE FE2 FI S3
      go_wp2_with fail
      refine SO.out.mono ?_
      rintro r w3 ⟨rfl, hf, hg3⟩
      have F3 := Lib.hid hf
      have CE4 := Lib.hid (CE3.out.kept hg3 (by intro e; injection e with e; omega))
      have RS4 := Lib.hid (RS3.out.far hg3 (by omega))
      have BW3 := Lib.hid (BW.out.grown hg3 BW.out.size (fun x hx => by injection hx with hx; have := HGE.out; omega))
      have LSL := Lib.hid (show (srtI (supP P e.ap x)).length = Ls from hf.len)
      obtain ⟨bc, oC, c, rfl, hbc, hcc, c0, c1, hcz⟩ := H0.out.c.at hx
      have GD := Lib.hid (show e.cs.getD x 0 = c by rw [List.getD_eq_getElem?_getD, hcz.out]; rfl)
      have cc3 := (BW3.out.cell (p := ⟨bc, oC + x, none⟩) hbc).trans hcc
      have y1 := CE4.out.cell 1 rfl
      have x0 : (0 : Int) ≤ (x : Int) := by omega
      have x1 : (x : Int) < (m : Int) := by omega
      have cB := XC.out
      rw [GD.out] at cB
      clear hf hg3 SO CE3 RS3 BW hcc hcz OR GI
      go_wp2_with fail
      refine (whole_raw c _).mono ?_
      rintro r w4 ⟨rfl, b4⟩
      have ba := bel_alloc w4 (.cells #[.int .i64 c, .int .i64 1] 32)
      have b5 := bel_trans b4 ba
      have F5 := Lib.hid (F3.out.below b5)
      have CE5 := Lib.hid (CE4.out.below b5)
      have RS5 := Lib.hid (RS4.out.below b5)
      have BW5 := Lib.hid (bel_trans BW3.out b5)
      have L5 := Lib.hid (BO.new 32 w4 (.int .i64 c) (.int .i64 1))
      have g4l : g < w4.heap.size := Nat.lt_of_lt_of_le (F3.out.block g rfl).2 b4.size
      have FV5 := Lib.hid (show c = redN (c * D) D ∧ (1 : Int) = redD (c * D) D from ⟨(red_whole c d1).1.symm, (red_whole c d1).2.symm⟩)
      clear b4 ba b5 F3 CE4 RS4 BW3 y1 cc3
      go_wp2_with fail
      obtain ⟨g11, hg11⟩ : ∃ z, w4.heap.size = z := ⟨_, rfl⟩
      obtain ⟨w5, hw5⟩ : ∃ z, w4.alloc (.cells #[.int .i64 c, .int .i64 1] 32) = z := ⟨_, rfl⟩
      rw [hw5] at F5 CE5 RS5 BW5 L5
      rw [hg11] at L5 g4l
      rw [hw5, hg11]
      clear hw5 hg11
      have PI : priceS e.cs e.ap (D, P) x = prc ((srtI (supP P e.ap x)).drop 0) (c * D) := by
        unfold priceS
        rw [GD.out]
        rfl
      obtain ⟨V, hV⟩ : ∃ z, priceS e.cs e.ap (D, P) x = z := ⟨_, rfl⟩
      obtain ⟨Lq, hLq⟩ : ∃ z, srtI (supP P e.ap x) = z := ⟨_, rfl⟩
      rw [hV, hLq] at PI
      have HV := Lib.hid hV
      rw [hLq] at F5 LSL SN
      have SMQ := Lib.hid (show ∀ p ∈ Lq, Sm p D from fun p hp => SB.out p ((srtI_perm _).mem_iff.1 (by rw [hLq]; exact hp)))
      have PIH := Lib.hid PI.symm
      have cd1 := Int.mul_pos (a := c) (b := D) (by omega) (by omega)
      have cd2 : c * D ≤ 60 * D := Int.mul_le_mul_of_nonneg_right cB.2 (by omega)
      clear PI hV hLq
      go_loopw [42] (fun t wr => ∃ (i : Nat) (z N M : Int), i ≤ Ls ∧ t = .int .i64 i ∧ BO 32 wr g11 (.int .i64 N) (.int .i64 M) ∧ Hid (N = redN z D ∧ M = redD z D) ∧ Hid (prc (Lq.drop i) z = V) ∧ 0 < z ∧ z ≤ 60 * D ∧ w5.grownBy wr (some g11)) (fun t _ => Ls - (intOf t).toNat)
      case atStart => exact ⟨0, c * D, c, 1, Nat.zero_le _, rfl, L5.out, FV5.out, PIH.out, cd1, cd2, World.grownBy.refl _ _⟩
      case round =>
        obtain ⟨i, z, N, M, hi, rfl, hbo, NM, HPR, z0, z60, hg⟩ := hrel
        have EI := Lib.hid hbo
        have GI := Lib.hid hg
        have FI := Lib.hid (F5.out.kept hg (.inr (by simp [Value.ownBlock]; omega)))
        have RI := Lib.hid (RS5.out.far hg (by have := (F5.out.block g rfl).1; omega))
        have BI := Lib.hid (BW5.out.grown hg BW5.out.size (fun x hx => by injection hx with hx; have := HGE.out; have := (F5.out.block g rfl).1; omega))
        clear hbo hg L5 FV5 PIH cd1 cd2
        by_cases hil : i < Ls
        · have d0 := decide_eq_true (show (i : Int) < (Ls : Int) by omega)
          obtain ⟨p, hpx⟩ : ∃ p, Lq[i]? = some p := ⟨_, List.getElem?_eq_getElem (by rw [LSL.out]; exact hil)⟩
          have hpm := List.mem_of_getElem? hpx
          have p00 := SN.out p hpm
          have smp := SMQ.out p hpm
          have hdr : Lq.drop i = p :: Lq.drop (i + 1) := by
            obtain ⟨h1, h2⟩ := List.getElem?_eq_some_iff.1 hpx
            rw [List.drop_eq_getElem_cons h1, h2]
          obtain ⟨ml, hml⟩ : ∃ z, Ls - i = z := ⟨_, rfl⟩
          have hll : (Lq.drop (i + 1)).length + 1 = ml := by rw [List.length_drop, LSL.out]; omega
          have ml1 : 1 ≤ ml := by omega
          have ml6 : ml ≤ 6 := by omega
          have HP2 := HPR.out
          rw [hdr] at HP2
          unfold prc at HP2
          rw [hll] at HP2
          have HPC := Lib.hid HP2
          have smz : Sm z D := ⟨d1, by omega, by omega, by omega⟩
          have Dm1 := Int.mul_pos (a := D) (b := (ml : Int)) (by omega) (by omega)
          have Dm2 := Int.mul_le_mul_of_nonneg_left (show (ml : Int) ≤ 6 by omega) (show 0 ≤ D by omega)
          have smo : Sm z (D * (ml : Int)) := ⟨by omega, by omega, by omega, by omega⟩
          have OV0 := fun W => over_ok (m := (ml : Int)) smz (by omega) (by omega) W
          have CM0 := fun W => compare2_ok smo smp W
          have MI0 := fun W => minus_ok smz smp W
          obtain ⟨gq, eg, _, _, cp0, cp1, _⟩ := FI.out.at hpx
          simp only [Option.some.injEq, Addr.mk.injEq, and_true] at eg
          subst eg
          obtain ⟨A0, hA0⟩ : ∃ y, redN z (D * (ml : Int)) = y := ⟨_, rfl⟩
          obtain ⟨A1, hA1⟩ : ∃ y, redD z (D * (ml : Int)) = y := ⟨_, rfl⟩
          obtain ⟨Q0, hQ0⟩ : ∃ y, redN p D = y := ⟨_, rfl⟩
          obtain ⟨Q1, hQ1⟩ : ∃ y, redD p D = y := ⟨_, rfl⟩
          obtain ⟨N', hN'⟩ : ∃ y, redN (z - p) D = y := ⟨_, rfl⟩
          obtain ⟨M', hM'⟩ : ∃ y, redD (z - p) D = y := ⟨_, rfl⟩
          obtain ⟨q, hq⟩ : ∃ y, cmpI (z * D) (p * (D * (ml : Int))) = y := ⟨_, rfl⟩
          have QL : q ≤ 0 ↔ z ≤ p * (ml : Int) := by
            rw [← hq]
            have e1 : p * (D * (ml : Int)) = p * (ml : Int) * D := by ac_rfl
            rw [e1]
            unfold cmpI
            constructor
            · intro h
              rcases Int.lt_or_le (p * (ml : Int)) z with h1 | h1
              · have h2 := Int.mul_lt_mul_of_pos_right h1 (show 0 < D by omega)
                rw [if_neg (by omega), if_pos h2] at h
                omega
              · exact h1
            · intro h
              have h2 := Int.mul_le_mul_of_nonneg_right h (show 0 ≤ D by omega)
              split
              · omega
              · rw [if_neg (by omega)]; omega
          unfold FV at OV0 CM0 MI0
          rw [hA0, hA1, ← NM.out.1, ← NM.out.2] at OV0
          rw [hA0, hA1, hQ0, hQ1, hq] at CM0
          rw [hQ0, hQ1, hN', hM', ← NM.out.1, ← NM.out.2] at MI0
          rw [hQ0] at cp0
          rw [hQ1] at cp1
          have OVR := Lib.hid OV0
          have CMR := Lib.hid CM0
          have MIR := Lib.hid MI0
          have HA := Lib.hid (And.intro hA0 hA1)
          have NM' := Lib.hid (And.intro hN'.symm hM'.symm)
          have ba := bel_alloc wr (.cells #[.int .i64 Q0, .int .i64 Q1] 32)
          have B13 := Lib.hid (BO.new 32 wr (.int .i64 Q0) (.int .i64 Q1))
          have E13 := Lib.hid (EI.out.below ba)
          have R13 := Lib.hid (RI.out.below ba)
          have G13 := Lib.hid (gr_belS GI.out ba)
          have BB13 := Lib.hid (bel_trans BI.out ba)
          have i0 : (0 : Int) ≤ (i : Int) := by omega
          have i1 : (i : Int) < (Ls : Int) := by omega
          have g11w := EI.out.lt
          clear hpx hpm hdr hll HP2 smz Dm1 Dm2 smo OV0 CM0 MI0 hA0 hA1 hQ0 hQ1 hN' hM' hq ba NM smp
          go_upto_region 12 with fail
          obtain ⟨g13, hg13⟩ : ∃ z, wr.heap.size = z := ⟨_, rfl⟩
          obtain ⟨wq, hwq⟩ : ∃ z, wr.alloc (.cells #[.int .i64 Q0, .int .i64 Q1] 32) = z := ⟨_, rfl⟩
          rw [hwq, hg13] at B13
          rw [hwq] at E13 R13 G13 BB13
          rw [hg13] at g11w
          rw [hwq, hg13]
          have wml : IntKind.i64.wrap ((Ls : Int) - (i : Int)) = ((ml : Nat) : Int) := by rw [IntWalk.i64_in _ (by omega)]; omega
          clear hwq hg13 cp0 cp1
          obtain ⟨wo, rfl⟩ : ∃ z, z = wr := ⟨_, rfl⟩
          obtain ⟨wr, rfl⟩ : ∃ z, z = wq := ⟨_, rfl⟩
          have v1 := E13.out.cells.1
          have v2 := E13.out.cells.2
          have SS := Lib.hid (fun W (hW : Below wr.heap.size wr W) => (show Below wr.heap.size wr W ∧ W.cell? ⟨g11, 0, none⟩ = some (.int .i64 N) ∧ W.cell? ⟨g11, 1, none⟩ = some (.int .i64 M) from
            ⟨hW, (hW.cell (p := ⟨g11, 0, none⟩) E13.out.lt).trans v1, (hW.cell (p := ⟨g11, 1, none⟩) E13.out.lt).trans v2⟩))
          clear v1 v2
          go_cut [14] from 43 to 62 (fun s14 wx => ∃ g7 : Nat, s14 = .pointer (some ⟨g7, 0, none⟩) ∧ wr.heap.size ≤ g7 ∧ BO 32 wx g7 (.int .i64 A0) (.int .i64 A1) ∧ Below wr.heap.size wr wx)
          case first =>
            refine wp_region_noPanic ?_
            refine wp_region_R (inFirst (fun W => Below wr.heap.size wr W ∧ W.cell? ⟨g11, 0, none⟩ = some (.int .i64 N) ∧ W.cell? ⟨g11, 1, none⟩ = some (.int .i64 M)) 8) (by kernel_rfl) ?_
            have hS := SS.out wr.drew ⟨rfl, rfl, rfl, Nat.le_refl _, fun _ _ => rfl⟩
            obtain ⟨v0, hv0⟩ : ∃ x, wr.drew = x := ⟨_, rfl⟩
            rw [hv0] at hS
            rw [hv0]
            clear hv0
            refine anyR_take (i := 0) (.agg #[.int .i64 N, .int .i64 M]) rfl (by kernel_rfl) (by kernel_rfl) (by kernel_rfl) (by kernel_rfl) (fun _ _ _ h => h) (by assumption) ⟨by rfl, ?_⟩ ?_
            · intro W hW
              go_simp
            try simp only [Act.put, List.setIfInBounds_toArray, List.set_cons_zero, List.set_cons_succ, List.getElem_toArray, List.getElem_cons_zero, List.getElem_cons_succ]
            refine anyR_take (i := 1) (.slice (some ⟨g, 0, none⟩) Ls lc) rfl (by kernel_rfl) (by kernel_rfl) (by kernel_rfl) (by kernel_rfl) (fun _ _ _ h => h) (by assumption) ⟨by rfl, ?_⟩ ?_
            · intro W hW
              go_simp
            try simp only [Act.put, List.setIfInBounds_toArray, List.set_cons_zero, List.set_cons_succ, List.getElem_toArray, List.getElem_cons_zero, List.getElem_cons_succ]
            refine anyR_take (i := 2) (.int .i64 (Ls : Nat)) rfl (by kernel_rfl) (by kernel_rfl) (by kernel_rfl) (by kernel_rfl) (fun _ _ _ h => h) (by assumption) ⟨by rfl, ?_⟩ ?_
            · intro W hW
              go_simp
            try simp only [Act.put, List.setIfInBounds_toArray, List.set_cons_zero, List.set_cons_succ, List.getElem_toArray, List.getElem_cons_zero, List.getElem_cons_succ]
            refine anyR_take (i := 3) (.int .i64 (i : Nat)) rfl (by kernel_rfl) (by kernel_rfl) (by kernel_rfl) (by kernel_rfl) (fun _ _ _ h => h) (by assumption) ⟨by rfl, ?_⟩ ?_
            · intro W hW
              go_simp
            try simp only [Act.put, List.setIfInBounds_toArray, List.set_cons_zero, List.set_cons_succ, List.getElem_toArray, List.getElem_cons_zero, List.getElem_cons_succ]
            refine anyR_take (i := 4) (.int .i64 (ml : Nat)) rfl (by kernel_rfl) (by kernel_rfl) (by kernel_rfl) (by kernel_rfl) (fun _ _ _ h => h) (by assumption) ⟨by rfl, ?_⟩ ?_
            · intro W hW
              go_simp
            try simp only [Act.put, List.setIfInBounds_toArray, List.set_cons_zero, List.set_cons_succ, List.getElem_toArray, List.getElem_cons_zero, List.getElem_cons_succ]
            refine anyR_two (i := 5) (j := 7) (by kernel_rfl) rfl rfl ?_ ?_
            · intro K hK
              go_simp
              go_at_call 33
              refine (whole_raw (ml : Int) _).mono ?_
              rintro _ v3 ⟨rfl, c3⟩
              have hT := SS.out v3 (bel_trans hS.1 c3)
              refine hK.out _ _ (fun _ => hT) ?_
              clear hS
              have hS := hT
              clear hT
              clear hK K
              try simp only [Act.put, List.setIfInBounds_toArray, List.set_cons_zero, List.set_cons_succ, List.getElem_toArray, List.getElem_cons_zero, List.getElem_cons_succ]
              refine anyR_two (i := 6) (j := 7) (by kernel_rfl) rfl rfl ?_ ?_
              · intro K hK
                go_simp
                go_at_call 36
                refine (OVR.out _).mono ?_
                rintro _ v4 ⟨rfl, c4⟩
                have hT := SS.out v4 (bel_trans hS.1 c4)
                refine hK.out _ _ (fun _ => hT) ?_
                clear hS
                have hS := hT
                clear hT
                clear hK K
                try simp only [Act.put, List.setIfInBounds_toArray, List.set_cons_zero, List.set_cons_succ, List.getElem_toArray, List.getElem_cons_zero, List.getElem_cons_succ]
                refine anyR_one (i := 7) (by kernel_rfl) rfl ?_
                intro K hK
                go_simp
                have c5 := bel_alloc v4 (.cells #[.int .i64 0, .int .i64 0] 32)
                have N5 := Lib.hid (BO.new 32 v4 (.int .i64 0) (.int .i64 0))
                have gz5 := hS.1.size
                obtain ⟨g7, hg7⟩ : ∃ z, (v4).heap.size = z := ⟨_, rfl⟩
                obtain ⟨v5, hv5⟩ : ∃ z, (v4).alloc (.cells #[.int .i64 0, .int .i64 0] 32) = z := ⟨_, rfl⟩
                rw [hv5] at c5 N5
                rw [hv5]
                rw [hg7] at N5 gz5
                try rw [hg7]
                clear hv5 hg7
                have hT := SS.out v5 (bel_trans hS.1 c5)
                refine hK.out _ _ (fun _ => hT) ?_
                clear hS
                have hS := hT
                clear hT
                clear hK K
                try simp only [Act.put, List.setIfInBounds_toArray, List.set_cons_zero, List.set_cons_succ, List.getElem_toArray, List.getElem_cons_zero, List.getElem_cons_succ]
                have N6 := Lib.hid (N5.out)
                have B6 := Lib.hid hS.1
                have q0 := N6.out.cells.1
                have q1 := N6.out.cells.2
                have f0 := N6.out.free 0
                have f1 := N6.out.free 1
                clear hS
                refine anyR_one (i := 8) (by kernel_rfl) rfl ?_
                intro K hK
                go_simp
                refine hK.out _ _ (fun h => absurd h (by decide)) ?_
                clear hK K
                try simp only [Act.put, List.setIfInBounds_toArray, List.set_cons_zero, List.set_cons_succ, List.getElem_toArray, List.getElem_cons_zero, List.getElem_cons_succ]
                refine anyR_done (by kernel_rfl) ?_ _
                refine NoPanic.normal ?_
                obtain ⟨p1, g1⟩ := N6.out.set0 (.int .i64 A0)
                obtain ⟨p2, g2⟩ := p1.set1 (.int .i64 A1)
                have P2 := Lib.hid p2
                have GG := Lib.hid ((B6.out.setCell (p := ⟨g7, 0, none⟩) (by omega) (.int .i64 A0)).setCell (p := ⟨g7, 1, none⟩) (by omega) (.int .i64 A1))
                clear p1 g1 p2 g2 q0 q1 f0 f1
                go_wp2_with fail
                go_meet
                case rel => exact ⟨g7, rfl, by omega, P2.out, GG.out⟩
              · intro K hK
                go_simp
                have c5 := bel_alloc v3 (.cells #[.int .i64 0, .int .i64 0] 32)
                have N5 := Lib.hid (BO.new 32 v3 (.int .i64 0) (.int .i64 0))
                have gz5 := hS.1.size
                obtain ⟨g7, hg7⟩ : ∃ z, (v3).heap.size = z := ⟨_, rfl⟩
                obtain ⟨v5, hv5⟩ : ∃ z, (v3).alloc (.cells #[.int .i64 0, .int .i64 0] 32) = z := ⟨_, rfl⟩
                rw [hv5] at c5 N5
                rw [hv5]
                rw [hg7] at N5 gz5
                try rw [hg7]
                clear hv5 hg7
                have hT := SS.out v5 (bel_trans hS.1 c5)
                refine hK.out _ _ (fun _ => hT) ?_
                clear hS
                have hS := hT
                clear hT
                clear hK K
                try simp only [Act.put, List.setIfInBounds_toArray, List.set_cons_zero, List.set_cons_succ, List.getElem_toArray, List.getElem_cons_zero, List.getElem_cons_succ]
                refine anyR_one (i := 6) (by kernel_rfl) rfl ?_
                intro K hK
                go_simp
                go_at_call 36
                refine (OVR.out _).mono ?_
                rintro _ v4 ⟨rfl, c4⟩
                have hT := SS.out v4 (bel_trans hS.1 c4)
                refine hK.out _ _ (fun _ => hT) ?_
                clear hS
                have hS := hT
                clear hT
                clear hK K
                try simp only [Act.put, List.setIfInBounds_toArray, List.set_cons_zero, List.set_cons_succ, List.getElem_toArray, List.getElem_cons_zero, List.getElem_cons_succ]
                have N6 := Lib.hid (N5.out.below c4)
                have B6 := Lib.hid hS.1
                have q0 := N6.out.cells.1
                have q1 := N6.out.cells.2
                have f0 := N6.out.free 0
                have f1 := N6.out.free 1
                clear hS
                refine anyR_one (i := 8) (by kernel_rfl) rfl ?_
                intro K hK
                go_simp
                refine hK.out _ _ (fun h => absurd h (by decide)) ?_
                clear hK K
                try simp only [Act.put, List.setIfInBounds_toArray, List.set_cons_zero, List.set_cons_succ, List.getElem_toArray, List.getElem_cons_zero, List.getElem_cons_succ]
                refine anyR_done (by kernel_rfl) ?_ _
                refine NoPanic.normal ?_
                obtain ⟨p1, g1⟩ := N6.out.set0 (.int .i64 A0)
                obtain ⟨p2, g2⟩ := p1.set1 (.int .i64 A1)
                have P2 := Lib.hid p2
                have GG := Lib.hid ((B6.out.setCell (p := ⟨g7, 0, none⟩) (by omega) (.int .i64 A0)).setCell (p := ⟨g7, 1, none⟩) (by omega) (.int .i64 A1))
                clear p1 g1 p2 g2 q0 q1 f0 f1
                go_wp2_with fail
                go_meet
                case rel => exact ⟨g7, rfl, by omega, P2.out, GG.out⟩
            · intro K hK
              go_simp
              have c5 := bel_alloc v0 (.cells #[.int .i64 0, .int .i64 0] 32)
              have N5 := Lib.hid (BO.new 32 v0 (.int .i64 0) (.int .i64 0))
              have gz5 := hS.1.size
              obtain ⟨g7, hg7⟩ : ∃ z, (v0).heap.size = z := ⟨_, rfl⟩
              obtain ⟨v5, hv5⟩ : ∃ z, (v0).alloc (.cells #[.int .i64 0, .int .i64 0] 32) = z := ⟨_, rfl⟩
              rw [hv5] at c5 N5
              rw [hv5]
              rw [hg7] at N5 gz5
              try rw [hg7]
              clear hv5 hg7
              have hT := SS.out v5 (bel_trans hS.1 c5)
              refine hK.out _ _ (fun _ => hT) ?_
              clear hS
              have hS := hT
              clear hT
              clear hK K
              try simp only [Act.put, List.setIfInBounds_toArray, List.set_cons_zero, List.set_cons_succ, List.getElem_toArray, List.getElem_cons_zero, List.getElem_cons_succ]
              refine anyR_one (i := 5) (by kernel_rfl) rfl ?_
              intro K hK
              go_simp
              go_at_call 33
              refine (whole_raw (ml : Int) _).mono ?_
              rintro _ v3 ⟨rfl, c3⟩
              have hT := SS.out v3 (bel_trans hS.1 c3)
              refine hK.out _ _ (fun _ => hT) ?_
              clear hS
              have hS := hT
              clear hT
              clear hK K
              try simp only [Act.put, List.setIfInBounds_toArray, List.set_cons_zero, List.set_cons_succ, List.getElem_toArray, List.getElem_cons_zero, List.getElem_cons_succ]
              refine anyR_one (i := 6) (by kernel_rfl) rfl ?_
              intro K hK
              go_simp
              go_at_call 36
              refine (OVR.out _).mono ?_
              rintro _ v4 ⟨rfl, c4⟩
              have hT := SS.out v4 (bel_trans hS.1 c4)
              refine hK.out _ _ (fun _ => hT) ?_
              clear hS
              have hS := hT
              clear hT
              clear hK K
              try simp only [Act.put, List.setIfInBounds_toArray, List.set_cons_zero, List.set_cons_succ, List.getElem_toArray, List.getElem_cons_zero, List.getElem_cons_succ]
              have N6 := Lib.hid (N5.out.below (bel_trans c3 c4))
              have B6 := Lib.hid hS.1
              have q0 := N6.out.cells.1
              have q1 := N6.out.cells.2
              have f0 := N6.out.free 0
              have f1 := N6.out.free 1
              clear hS
              refine anyR_one (i := 8) (by kernel_rfl) rfl ?_
              intro K hK
              go_simp
              refine hK.out _ _ (fun h => absurd h (by decide)) ?_
              clear hK K
              try simp only [Act.put, List.setIfInBounds_toArray, List.set_cons_zero, List.set_cons_succ, List.getElem_toArray, List.getElem_cons_zero, List.getElem_cons_succ]
              refine anyR_done (by kernel_rfl) ?_ _
              refine NoPanic.normal ?_
              obtain ⟨p1, g1⟩ := N6.out.set0 (.int .i64 A0)
              obtain ⟨p2, g2⟩ := p1.set1 (.int .i64 A1)
              have P2 := Lib.hid p2
              have GG := Lib.hid ((B6.out.setCell (p := ⟨g7, 0, none⟩) (by omega) (.int .i64 A0)).setCell (p := ⟨g7, 1, none⟩) (by omega) (.int .i64 A1))
              clear p1 g1 p2 g2 q0 q1 f0 f1
              go_wp2_with fail
              go_meet
              case rel => exact ⟨g7, rfl, by omega, P2.out, GG.out⟩
          case rest =>
          obtain ⟨g7, rfl, hg7, hv7, hwx⟩ := hcut
          have V8 := Lib.hid hv7
          have B8 := Lib.hid (B13.out.below hwx)
          have E8 := Lib.hid (E13.out.below hwx)
          have R8 := Lib.hid (R13.out.below hwx)
          have G8 := Lib.hid (gr_belS G13.out hwx)
          have BB8 := Lib.hid (bel_trans BB13.out hwx)
          have z0' := hv7.cells.1
          have z1' := hv7.cells.2
          have x0' := B8.out.cells.1
          have x1' := B8.out.cells.2
          clear hv7 hwx B13 E13 R13 G13 BB13 SS OVR FI EI RI GI
          by_cases hle : z ≤ p * (ml : Int)
          · have dq := decide_eq_true (QL.2 hle)
            have HPV := Lib.hid (show V = some (z, ml) by have := HPC.out; rw [if_pos hle] at this; exact this.symm)
            clear QL hle
            go_wp2_with fail
            refine (CMR.out _).mono ?_
            rintro _ w9 ⟨rfl, b9⟩
            have V9 := V8.out.below b9
            have R9 := R8.out.below b9
            have BB9 := Lib.hid (bel_trans BB8.out b9)
            have z0' := V9.cells.1
            have z1' := V9.cells.2
            have r0 := R9.cells.1
            have r1 := R9.cells.2
            have f0 := R9.free 0
            have f1 := R9.free 1
            have ST := Lib.hid (show ((w9.setCell ⟨ge + 1, 0, none⟩ (.int .i64 A0)).setCell ⟨ge + 1, 1, none⟩ (.int .i64 A1)).cell? ⟨ge + 1, 0, none⟩ = some (.int .i64 A0) ∧ ((w9.setCell ⟨ge + 1, 0, none⟩ (.int .i64 A0)).setCell ⟨ge + 1, 1, none⟩ (.int .i64 A1)).cell? ⟨ge + 1, 1, none⟩ = some (.int .i64 A1) from by
              obtain ⟨p1, _⟩ := R9.set0 (.int .i64 A0)
              obtain ⟨p2, _⟩ := p1.set1 (.int .i64 A1)
              exact p2.cells)
            clear b9 V9 R9
            go_wp2_with fail
            have t0 := ST.out.1
            have t1 := ST.out.2
            exact bodyPost_ret (v := .tuple #[.agg #[.int .i64 A0, .int .i64 A1], .bool true]) (by simp [results, Try.results29, go_sem, t0, t1]) rfl ⟨by rw [HV.out, HPV.out]; show _ = Ending.returned (.tuple #[FV z (D * (ml : Int)), .bool true]); unfold FV; rw [HA.out.1, HA.out.2], (BB9.out.setCell (by rw [HGE.out]; show ge ≤ ge + 1; omega) _).setCell (by rw [HGE.out]; show ge ≤ ge + 1; omega) _⟩
          · have dq := decide_eq_false (fun h => hle (QL.1 h))
            have HPV := Lib.hid (show prc (Lq.drop (i + 1)) (z - p) = V by have := HPC.out; rw [if_neg hle] at this; exact this)
            have zp : 0 < z - p := by
              have : p * 1 ≤ p * (ml : Int) := Int.mul_le_mul_of_nonneg_left (by omega) p00
              omega
            have zp6 : z - p ≤ 60 * D := by omega
            clear QL hle
            go_wp2_with fail
            refine (CMR.out _).mono ?_
            rintro _ w9 ⟨rfl, b9⟩
            have E9 := E8.out.below b9
            have B9 := B8.out.below b9
            have G9 := Lib.hid (gr_belS G8.out b9)
            have EE9 := Lib.hid E9
            have x0' := B9.cells.1
            have x1' := B9.cells.2
            have e0 := E9.cells.1
            have e1 := E9.cells.2
            clear b9 E9 B9 z0' z1'
            go_wp2_with fail
            refine (MIR.out _).mono ?_
            rintro _ w10 ⟨rfl, b10⟩
            have E10 := EE9.out.below b10
            have e0 := E10.cells.1
            have e1 := E10.cells.2
            have f0 := E10.free 0
            have f1 := E10.free 1
            have ST := Lib.hid (show BO 32 ((w10.setCell ⟨g11, 0, none⟩ (.int .i64 N')).setCell ⟨g11, 1, none⟩ (.int .i64 M')) g11 (.int .i64 N') (.int .i64 M') ∧ w5.grownBy ((w10.setCell ⟨g11, 0, none⟩ (.int .i64 N')).setCell ⟨g11, 1, none⟩ (.int .i64 M')) (some g11) from by
              obtain ⟨p1, g1⟩ := E10.set0 (.int .i64 N')
              obtain ⟨p2, g2⟩ := p1.set1 (.int .i64 M')
              exact ⟨p2, grown_trans (gr_belS G9.out b10) (grown_trans g1 g2)⟩)
            clear b10 E10 EE9
            go_wp2_with fail
            go_roundw
            case rel => exact ⟨i + 1, z - p, N', M', by omega, by go_num, ST.out.1, NM', HPV, zp, zp6, ST.out.2⟩
            case measure => simp [intOf]; omega
        · obtain rfl : Ls = i := by omega
          have d0 := decide_eq_false (show ¬ (Ls : Int) < (Ls : Int) by omega)
          have HPV := Lib.hid (show V = none by
            have := HPR.out
            rw [List.drop_eq_nil_of_le (Nat.le_of_eq LSL.out)] at this
            exact this.symm)
          have r0 := RI.out.cells.1
          have r1 := RI.out.cells.2
          have f0 := RI.out.free 0
          have f1 := RI.out.free 1
          have ST := Lib.hid (show ((wr.setCell ⟨ge + 1, 0, none⟩ (.int .i64 0)).setCell ⟨ge + 1, 1, none⟩ (.int .i64 0)).cell? ⟨ge + 1, 0, none⟩ = some (.int .i64 0) ∧ ((wr.setCell ⟨ge + 1, 0, none⟩ (.int .i64 0)).setCell ⟨ge + 1, 1, none⟩ (.int .i64 0)).cell? ⟨ge + 1, 1, none⟩ = some (.int .i64 0) from by
            obtain ⟨p1, _⟩ := RI.out.set0 (.int .i64 0)
            obtain ⟨p2, _⟩ := p1.set1 (.int .i64 0)
            exact p2.cells)
          clear FI EI GI HPR
          go_wp2_with fail
          have t0 := ST.out.1
          have t1 := ST.out.2
          exact bodyPost_ret (v := .tuple #[.agg #[.int .i64 0, .int .i64 0], .bool false]) (by simp [results, Try.results29, go_sem, t0, t1]) rfl ⟨by rw [HV.out, HPV.out]; rfl, (BI.out.setCell (by rw [HGE.out]; show ge ≤ ge + 1; omega) _).setCell (by rw [HGE.out]; show ge ≤ ge + 1; omega) _⟩
end Go.Proofs.Ytiodbjfchfmlcaa
