/- What is paid for a project, walked. -/
import Derived.Test.YtiodbjfchfmlcaaPrc
namespace Go.Proofs.Ytiodbjfchfmlcaa
set_option linter.unusedVariables false
set_option linter.unusedSimpArgs false
set_option maxRecDepth 100000
open Go.RowKit Go.Deep
theorem frs0' (D : Int) (h : 1 ≤ D) : redN 0 D = 0 ∧ redD 0 D = 1 := by
  have := red_whole 0 h
  rwa [Int.zero_mul] at this
theorem bel_weak {B : Nat} {w w' : World} (h : Below w.heap.size w w') (hB : B ≤ w.heap.size) : Below B w w' := ⟨h.os, h.tape, h.output, h.size, fun k hk => h.block k (by omega)⟩
theorem bel_low {B : Nat} {a b c : World} (h : Below B a b) (k : Below B b c) : Below B a c := h.trans k
theorem bel_trans' {B : Nat} {a b c : World} (h : Below B a b) (k : Below b.heap.size b c) (hB : B ≤ b.heap.size) : Below B a c := h.trans (bel_weak k hB)
theorem pay_low {w : World} {ge : Nat} {row : Option Nat} (hg : w.heap.size = ge) (h : ∀ y, row = some y → ge + 1 + 1 ≤ y) : ∀ y, row = some y → w.heap.size ≤ y := fun y hy => by have := h y hy; omega
theorem share_ok (CA : Option Addr) (m cc : Nat) (AA : Option Addr) (n ac : Nat) (mon : Int) (w : World) (m0 : 0 ≤ mon) (m1 : mon ≤ 360) (n1 : 1 ≤ n) (n6 : n ≤ 6) :
    Calls Try.prog 32 #[.agg #[.int .i64 mon, .slice CA m cc, .slice AA n ac]] w fun r w' => r = .returned (FV mon n) ∧ Below w.heap.size w w' := by
  have FA0 := fun W => fraction_any mon (n : Int) W (by omega) (by omega) (by omega) (by omega)
  unfold FV
  obtain ⟨N, hN⟩ : ∃ z, redN mon (n : Int) = z := ⟨_, rfl⟩
  obtain ⟨M, hM⟩ : ∃ z, redD mon (n : Int) = z := ⟨_, rfl⟩
  rw [hN, hM] at FA0 ⊢
  have FA := Lib.hid FA0
  have b0 := bel_alloc w (.cells #[.int .i64 mon, .slice CA m cc, .slice AA n ac] 27)
  have bf := bel_alloc (w.alloc (.cells #[.int .i64 mon, .slice CA m cc, .slice AA n ac] 27)) (.cells #[.int .i64 0, .int .i64 0] 32)
  have RS0 := BO.new 32 (w.alloc (.cells #[.int .i64 mon, .slice CA m cc, .slice AA n ac] 27)) (.int .i64 0) (.int .i64 0)
  rw [show (w.alloc (.cells #[.int .i64 mon, .slice CA m cc, .slice AA n ac] 27)).heap.size = w.heap.size + 1 by simp] at RS0
  have RS := Lib.hid RS0
  have BB := Lib.hid (bel_trans b0 bf)
  clear FA0 hN hM RS0 b0 bf
  go_enter Try.func32, Try.ntmps32
  go_wp2_with fail
  refine (FA.out _).mono ?_
  rintro r w1 ⟨rfl, b1⟩
  have R1 := RS.out.below b1
  have B1 := Lib.hid (bel_trans BB.out b1)
  have r0 := R1.cells.1
  have r1 := R1.cells.2
  have f0 := R1.free 0
  have f1 := R1.free 1
  have ST := Lib.hid (show ((w1.setCell ⟨w.heap.size + 1, 0, none⟩ (.int .i64 N)).setCell ⟨w.heap.size + 1, 1, none⟩ (.int .i64 M)).cell? ⟨w.heap.size + 1, 0, none⟩ = some (.int .i64 N) ∧ ((w1.setCell ⟨w.heap.size + 1, 0, none⟩ (.int .i64 N)).setCell ⟨w.heap.size + 1, 1, none⟩ (.int .i64 M)).cell? ⟨w.heap.size + 1, 1, none⟩ = some (.int .i64 M) from by
    obtain ⟨p1, _⟩ := R1.set0 (.int .i64 N)
    obtain ⟨p2, _⟩ := p1.set1 (.int .i64 M)
    exact p2.cells)
  clear b1 R1
  go_wp2_with fail
  have t0 := ST.out.1
  have t1 := ST.out.2
  exact bodyPost_ret (v := .agg #[.int .i64 N, .int .i64 M]) (by simp [results, Try.results32, go_sem, t0, t1]) rfl ⟨rfl, (B1.out.setCell (by show w.heap.size ≤ w.heap.size + 1; omega) _).setCell (by show w.heap.size ≤ w.heap.size + 1; omega) _⟩
theorem lesser_ok {x y D : Int} (h : Sm x D) (k : Sm y D) (w : World) :
    Calls Try.prog 66 #[FV x D, FV y D] w fun e w' => e = .returned (FV (min x y) D) ∧ Below w.heap.size w w' := by
  have CM0 := fun W => compare_ok h k W
  unfold FV at CM0 ⊢
  obtain ⟨q, hq⟩ : ∃ z, cmpI x y = z := ⟨_, rfl⟩
  have QL : q ≤ 0 ↔ x ≤ y := by
    rw [← hq]
    unfold cmpI
    split <;> (try split) <;> omega
  by_cases hle : x ≤ y
  · rw [Int.min_eq_left hle]
    have dq := decide_eq_true (QL.2 hle)
    obtain ⟨a, ha⟩ : ∃ z, redN x D = z := ⟨_, rfl⟩
    obtain ⟨b, hb⟩ : ∃ z, redD x D = z := ⟨_, rfl⟩
    obtain ⟨c, hc⟩ : ∃ z, redN y D = z := ⟨_, rfl⟩
    obtain ⟨d, hd⟩ : ∃ z, redD y D = z := ⟨_, rfl⟩
    rw [ha, hb, hc, hd, hq] at CM0
    rw [ha, hb, hc, hd]
    have CM := Lib.hid CM0
    clear ha hb hc hd hq h k CM0 QL hle
    obtain ⟨g, hg⟩ : ∃ z, w.heap.size = z := ⟨_, rfl⟩
    have hg1 : (w.alloc (.cells #[.int .i64 a, .int .i64 b] 32)).heap.size = g + 1 := by rw [← hg]; simp
    have hg2 : ((w.alloc (.cells #[.int .i64 a, .int .i64 b] 32)).alloc (.cells #[.int .i64 c, .int .i64 d] 32)).heap.size = g + 1 + 1 := by rw [← hg]; simp
    have X0 := BO.new 32 w (.int .i64 a) (.int .i64 b)
    have Y0 := BO.new 32 (w.alloc (.cells #[.int .i64 a, .int .i64 b] 32)) (.int .i64 c) (.int .i64 d)
    have Z0 := BO.new 32 ((w.alloc (.cells #[.int .i64 a, .int .i64 b] 32)).alloc (.cells #[.int .i64 c, .int .i64 d] 32)) (.int .i64 0) (.int .i64 0)
    have u1 := bel_alloc w (.cells #[.int .i64 a, .int .i64 b] 32)
    have u2 := bel_alloc (w.alloc (.cells #[.int .i64 a, .int .i64 b] 32)) (.cells #[.int .i64 c, .int .i64 d] 32)
    have u3 := bel_alloc ((w.alloc (.cells #[.int .i64 a, .int .i64 b] 32)).alloc (.cells #[.int .i64 c, .int .i64 d] 32)) (.cells #[.int .i64 0, .int .i64 0] 32)
    rw [hg] at X0
    rw [hg1] at Y0
    rw [hg2] at Z0
    have XX := Lib.hid (X0.below (bel_trans u2 u3))
    have YY := Lib.hid (Y0.below u3)
    have ZZ := Lib.hid Z0
    have BB := Lib.hid (bel_trans u1 (bel_trans u2 u3))
    have HG := Lib.hid hg
    clear X0 Y0 Z0 u1 u2 u3 hg hg1 hg2
    go_enter Try.func66, Try.ntmps66
    go_wp2_with fail
    refine (CM.out _).mono ?_
    rintro e w1 ⟨rfl, b1⟩
    have B1 := Lib.hid (bel_trans BB.out b1)
    have X1 := XX.out.below b1
    have Y1 := YY.out.below b1
    have Z1 := ZZ.out.below b1
    have q0 := X1.cells.1
    have q1 := X1.cells.2
    have q2 := Y1.cells.1
    have q3 := Y1.cells.2
    have q4 := Z1.cells.1
    have q5 := Z1.cells.2
    have f0 := Z1.free 0
    have f1 := Z1.free 1
    rw [← HG.out] at q0 q1 q2 q3 q4 q5 f0 f1
    clear X1 Y1 b1
    have ST := Lib.hid (show ((w1.setCell ⟨w.heap.size + 1 + 1, 0, none⟩ (.int .i64 a)).setCell ⟨w.heap.size + 1 + 1, 1, none⟩ (.int .i64 b)).cell? ⟨w.heap.size + 1 + 1, 0, none⟩ = some (.int .i64 a) ∧ ((w1.setCell ⟨w.heap.size + 1 + 1, 0, none⟩ (.int .i64 a)).setCell ⟨w.heap.size + 1 + 1, 1, none⟩ (.int .i64 b)).cell? ⟨w.heap.size + 1 + 1, 1, none⟩ = some (.int .i64 b) from by
      rw [HG.out]
      obtain ⟨p1, _⟩ := Z1.set0 (.int .i64 a)
      obtain ⟨p2, _⟩ := p1.set1 (.int .i64 b)
      exact p2.cells)
    clear Z1
    go_wp2_with fail
    have t0 := ST.out.1
    have t1 := ST.out.2
    exact bodyPost_ret (v := .agg #[.int .i64 a, .int .i64 b]) (by simp [results, Try.results66, go_sem, t0, t1]) rfl ⟨rfl, (B1.out.setCell (by show w.heap.size ≤ w.heap.size + 1 + 1; omega) _).setCell (by show w.heap.size ≤ w.heap.size + 1 + 1; omega) _⟩
  · rw [Int.min_eq_right (by omega)]
    have dq := decide_eq_false (fun h => hle (QL.1 h))
    obtain ⟨a, ha⟩ : ∃ z, redN x D = z := ⟨_, rfl⟩
    obtain ⟨b, hb⟩ : ∃ z, redD x D = z := ⟨_, rfl⟩
    obtain ⟨c, hc⟩ : ∃ z, redN y D = z := ⟨_, rfl⟩
    obtain ⟨d, hd⟩ : ∃ z, redD y D = z := ⟨_, rfl⟩
    rw [ha, hb, hc, hd, hq] at CM0
    rw [ha, hb, hc, hd]
    have CM := Lib.hid CM0
    clear ha hb hc hd hq h k CM0 QL hle
    obtain ⟨g, hg⟩ : ∃ z, w.heap.size = z := ⟨_, rfl⟩
    have hg1 : (w.alloc (.cells #[.int .i64 a, .int .i64 b] 32)).heap.size = g + 1 := by rw [← hg]; simp
    have hg2 : ((w.alloc (.cells #[.int .i64 a, .int .i64 b] 32)).alloc (.cells #[.int .i64 c, .int .i64 d] 32)).heap.size = g + 1 + 1 := by rw [← hg]; simp
    have X0 := BO.new 32 w (.int .i64 a) (.int .i64 b)
    have Y0 := BO.new 32 (w.alloc (.cells #[.int .i64 a, .int .i64 b] 32)) (.int .i64 c) (.int .i64 d)
    have Z0 := BO.new 32 ((w.alloc (.cells #[.int .i64 a, .int .i64 b] 32)).alloc (.cells #[.int .i64 c, .int .i64 d] 32)) (.int .i64 0) (.int .i64 0)
    have u1 := bel_alloc w (.cells #[.int .i64 a, .int .i64 b] 32)
    have u2 := bel_alloc (w.alloc (.cells #[.int .i64 a, .int .i64 b] 32)) (.cells #[.int .i64 c, .int .i64 d] 32)
    have u3 := bel_alloc ((w.alloc (.cells #[.int .i64 a, .int .i64 b] 32)).alloc (.cells #[.int .i64 c, .int .i64 d] 32)) (.cells #[.int .i64 0, .int .i64 0] 32)
    rw [hg] at X0
    rw [hg1] at Y0
    rw [hg2] at Z0
    have XX := Lib.hid (X0.below (bel_trans u2 u3))
    have YY := Lib.hid (Y0.below u3)
    have ZZ := Lib.hid Z0
    have BB := Lib.hid (bel_trans u1 (bel_trans u2 u3))
    have HG := Lib.hid hg
    clear X0 Y0 Z0 u1 u2 u3 hg hg1 hg2
    go_enter Try.func66, Try.ntmps66
    go_wp2_with fail
    refine (CM.out _).mono ?_
    rintro e w1 ⟨rfl, b1⟩
    have B1 := Lib.hid (bel_trans BB.out b1)
    have X1 := XX.out.below b1
    have Y1 := YY.out.below b1
    have Z1 := ZZ.out.below b1
    have q0 := X1.cells.1
    have q1 := X1.cells.2
    have q2 := Y1.cells.1
    have q3 := Y1.cells.2
    have q4 := Z1.cells.1
    have q5 := Z1.cells.2
    have f0 := Z1.free 0
    have f1 := Z1.free 1
    rw [← HG.out] at q0 q1 q2 q3 q4 q5 f0 f1
    clear X1 Y1 b1
    have ST := Lib.hid (show ((w1.setCell ⟨w.heap.size + 1 + 1, 0, none⟩ (.int .i64 c)).setCell ⟨w.heap.size + 1 + 1, 1, none⟩ (.int .i64 d)).cell? ⟨w.heap.size + 1 + 1, 0, none⟩ = some (.int .i64 c) ∧ ((w1.setCell ⟨w.heap.size + 1 + 1, 0, none⟩ (.int .i64 c)).setCell ⟨w.heap.size + 1 + 1, 1, none⟩ (.int .i64 d)).cell? ⟨w.heap.size + 1 + 1, 1, none⟩ = some (.int .i64 d) from by
      rw [HG.out]
      obtain ⟨p1, _⟩ := Z1.set0 (.int .i64 c)
      obtain ⟨p2, _⟩ := p1.set1 (.int .i64 d)
      exact p2.cells)
    clear Z1
    go_wp2_with fail
    have t0 := ST.out.1
    have t1 := ST.out.2
    exact bodyPost_ret (v := .agg #[.int .i64 c, .int .i64 d]) (by simp [results, Try.results66, go_sem, t0, t1]) rfl ⟨rfl, (B1.out.setCell (by show w.heap.size ≤ w.heap.size + 1 + 1; omega) _).setCell (by show w.heap.size ≤ w.heap.size + 1 + 1; omega) _⟩
def payK (ap : List (List Int)) (x : Nat) (r : Int) (m : Nat) (P : List Int) (i : Nat) : List Int := (List.range i).map fun v => if sup1 ap (x : Int) v then min r (P.getD v 0 * m) else 0
theorem payK_snoc (ap : List (List Int)) (x : Nat) (r : Int) (m : Nat) (P : List Int) (i : Nat) : payK ap x r m P (i + 1) = payK ap x r m P i ++ [if sup1 ap (x : Int) i then min r (P.getD i 0 * m) else 0] := by
  unfold payK
  rw [List.range_succ, List.map_append]
  rfl
set_option maxHeartbeats 4000000 in
theorem paid_ok (mon : Int) (CA : Option Addr) (m cc : Nat) (AA : Option Addr) (n ac : Nat) (ap : List (List Int)) (x : Nat) (r : Int) (mm : Nat) (D : Int) (P : List Int) (PA : Option Addr) (pc : Nat) (w : World) (h : Rws w AA n ac ap) (n6 : n ≤ 6)
    (PL : P.length = n) (PB : ∀ v, 0 ≤ P.getD v 0 ∧ P.getD v 0 ≤ 360 * D) (d1 : 1 ≤ D) (d2 : D ≤ 279936) (m1 : 1 ≤ mm) (m6 : mm ≤ 6) (r0 : 0 < r) (r1 : r ≤ 60 * D) (hp : FrsR w PA n pc D P) :
    Calls Try.prog 61 #[.agg #[.int .i64 mon, .slice CA m cc, .slice AA n ac], .int .i64 x, FV r (D * mm), .slice PA n pc] w fun res w' => ∃ g lc, res = .returned (.slice (some ⟨g, 0, none⟩) n lc) ∧ FrsO w' w.heap.size (some ⟨g, 0, none⟩) n lc (D * mm) (payK ap x r mm P n) ∧ Below w.heap.size w w' := by
  have Dm1 := Int.mul_pos (a := D) (b := (mm : Int)) (by omega) (by omega)
  have Dm2 := Int.mul_le_mul_of_nonneg_left (show (mm : Int) ≤ 6 by omega) (show 0 ≤ D by omega)
  have smr : Sm r (D * (mm : Int)) := ⟨by omega, by omega, by omega, by omega⟩
  have SMP : ∀ v, Sm (P.getD v 0 * mm) (D * (mm : Int)) := fun v => by
    have := PB v
    have a1 := Int.mul_nonneg this.1 (show 0 ≤ (mm : Int) by omega)
    have a2 := Int.mul_le_mul_of_nonneg_left (show (mm : Int) ≤ 6 by omega) this.1
    exact ⟨by omega, by omega, by omega, by omega⟩
  have LS := Lib.hid (fun (v : Nat) (W : World) => lesser_ok smr (SMP v) W)
  have SC := Lib.hid (fun v => (show frv (D * mm) (P.getD v 0 * mm) = frv D (P.getD v 0) from frv_scale d1 (by omega)))
  have dz := Lib.hid (frs0' (D * mm) (by omega))
  obtain ⟨R0, hR0⟩ : ∃ z, redN r (D * mm) = z := ⟨_, rfl⟩
  obtain ⟨R1, hR1⟩ : ∃ z, redD r (D * mm) = z := ⟨_, rfl⟩
  unfold FV at LS ⊢
  rw [hR0, hR1] at LS
  rw [hR0, hR1]
  have b0 := bel_alloc w (.cells #[.int .i64 mon, .slice CA m cc, .slice AA n ac] 27)
  have bf := bel_alloc (w.alloc (.cells #[.int .i64 mon, .slice CA m cc, .slice AA n ac] 27)) (.cells #[.int .i64 R0, .int .i64 R1] 32)
  have CE0 := (Cs.new w [.int .i64 mon, .slice CA m cc, .slice AA n ac] 27).below bf
  have RS0 := BO.new 32 (w.alloc (.cells #[.int .i64 mon, .slice CA m cc, .slice AA n ac] 27)) (.int .i64 R0) (.int .i64 R1)
  have bl := bel_alloc ((w.alloc (.cells #[.int .i64 mon, .slice CA m cc, .slice AA n ac] 27)).alloc (.cells #[.int .i64 R0, .int .i64 R1] 32)) (.cells #[] 32)
  have FL := frsO_lit ((w.alloc (.cells #[.int .i64 mon, .slice CA m cc, .slice AA n ac] 27)).alloc (.cells #[.int .i64 R0, .int .i64 R1] 32)) (D * mm)
  simp only [List.toArray] at CE0
  rw [show (w.alloc (.cells #[.int .i64 mon, .slice CA m cc, .slice AA n ac] 27)).heap.size = w.heap.size + 1 by simp] at RS0
  rw [show ((w.alloc (.cells #[.int .i64 mon, .slice CA m cc, .slice AA n ac] 27)).alloc (.cells #[.int .i64 R0, .int .i64 R1] 32)).heap.size = w.heap.size + 1 + 1 by simp] at FL
  have CE1 := Lib.hid (CE0.below bl)
  have RS1 := Lib.hid (RS0.below bl)
  have B1 := Lib.hid (bel_trans (bel_trans b0 bf) bl)
  have F1 := Lib.hid FL
  have H0 := Lib.hid h
  have P0 := Lib.hid hp
  have HPL := Lib.hid PL
  clear h hp PL PB b0 bf CE0 RS0 bl FL hR0 hR1 Dm1 Dm2 smr SMP
  go_enter Try.func61, Try.ntmps61
  go_upto_region 2 with fail
  obtain ⟨ge, hge⟩ : ∃ z, w.heap.size = z := ⟨_, rfl⟩
  obtain ⟨w1, hw1⟩ : ∃ z, ((w.alloc (.cells #[.int .i64 mon, .slice CA m cc, .slice AA n ac] 27)).alloc (.cells #[.int .i64 R0, .int .i64 R1] 32)).alloc (.cells #[] 32) = z := ⟨_, rfl⟩
  have HGE := Lib.hid hge
  rw [hw1] at CE1 RS1 B1 F1
  rw [hge] at CE1 RS1 F1
  rw [hw1]
  rw [hge]
  have LW1 : ge + 1 + 1 < w1.heap.size := (F1.out.block (ge + 1 + 1) rfl).2
  clear hw1 hge
  have c2 := CE1.out.cell 2 rfl
  have r0' := RS1.out.cells.1
  have r1' := RS1.out.cells.2
  have YC := Lib.hid (fun W (hW : Below (ge + 1 + 1) w1 W) => (show W.cell? ⟨ge, 2, none⟩ = some (.slice AA n ac) ∧ W.cell? ⟨ge + 1, 0, none⟩ = some (.int .i64 R0) ∧ W.cell? ⟨ge + 1, 1, none⟩ = some (.int .i64 R1) from
    ⟨(hW.cell (p := ⟨ge, 2, none⟩) (by show ge < ge + 1 + 1; omega)).trans c2, (hW.cell (p := ⟨ge + 1, 0, none⟩) (by show ge + 1 < ge + 1 + 1; omega)).trans r0', (hW.cell (p := ⟨ge + 1, 1, none⟩) (by show ge + 1 < ge + 1 + 1; omega)).trans r1'⟩))
  clear c2 r0' r1' CE1 RS1
  go_wp2_with fail
  go_loopw [9, 14] (fun s9 t wr => ∃ (i g lc : Nat), i ≤ n ∧ s9 = .slice (some ⟨g, 0, none⟩) i lc ∧ t = .int .i64 i ∧ FrsO wr (ge + 1 + 1) (some ⟨g, 0, none⟩) i lc (D * mm) (payK ap x r mm P i) ∧ Below (ge + 1 + 1) w1 wr ∧ Below w.heap.size w wr) (fun _ t _ => n - (intOf t).toNat)
  case atStart => exact ⟨0, ge + 1 + 1, 0, Nat.zero_le _, rfl, rfl, F1.out, Below.refl _ _, B1.out⟩
  case round =>
    obtain ⟨i, g, lc, hi, rfl, rfl, hf, hb, hbw⟩ := hrel
    have FI := Lib.hid hf
    have BI := Lib.hid hb
    have BW := Lib.hid hbw
    have hbz : w1.heap.size ≤ wr.heap.size := hb.size
    have gz2 : ge + 1 + 1 ≤ wr.heap.size := by omega
    have y2 := (YC.out wr hb).1
    clear hf hb hbw F1
    by_cases hil : i < n
    · have d0 := decide_eq_true (show (i : Int) < (n : Int) by omega)
      obtain ⟨b, off, A', l, c', zs, rfl, hbw', hc, hii, hz⟩ := (H0.out.below BW.out).at hil
      have HC := Lib.hid (has_any A' l c' zs x wr hii)
      have GE : sup1 ap (x : Int) i = zs.contains (x : Int) := by
        unfold sup1
        rw [List.getD_eq_getElem?_getD, hz.out]
        rfl
      have i0 : (0 : Int) ≤ (i : Int) := by omega
      have i1 : (i : Int) < (n : Int) := by omega
      clear hii hz
      cases hh : zs.contains (x : Int)
      · rw [hh] at HC GE
        have NX := Lib.hid (show payK ap x r mm P (i + 1) = payK ap x r mm P i ++ [0] by rw [payK_snoc, GE]; rfl)
        clear GE hh
        go_wp2_with fail
        refine HC.out.mono ?_
        rintro e w2 ⟨rfl, rfl⟩
        go_wp2_with fail
        refine (whole_raw 0 _).mono ?_
        rintro e w3 ⟨rfl, b3⟩
        have F3 := Lib.hid (FI.out.below b3)
        have BI3 := Lib.hid (bel_trans' BI.out b3 (by omega))
        have BW3 := Lib.hid (bel_trans BW.out b3)
        have z3 := b3.size
        have gz3 : ge + 1 + 1 ≤ w3.heap.size := by omega
        clear b3 FI BI BW
        go_wp2_with (at_builtin; refine app_fr1 w3 rfl _ _ rfl (ge + 1 + 1) (some ⟨g, 0, none⟩) i lc (D * mm) _ rfl F3.out 0 0 1 dz.out.1 dz.out.2 rfl (by omega) gz3 ?_; intro A2 c2 w4 p1 p2 p3; obtain ⟨g', rfl, _, _⟩ := OwnR.form p1 (by omega); have Q1 := Lib.hid p1; have Q2 := Lib.hid (BI3.out.grown p2 gz3 (fun y hy => (F3.out.block y hy).1)); have Q3 := Lib.hid (BW3.out.grown p2 BW3.out.size (pay_low HGE.out (fun y hy => (F3.out.block y hy).1))); clear p1 p2 p3)
        go_roundw
        case rel => exact ⟨i + 1, g', c2, by omega, rfl, by go_num, by rw [NX.out]; exact Q1.out, Q2.out, Q3.out⟩
        case measure => simp [intOf]; omega
      · rw [hh] at HC GE
        have NX := Lib.hid (show payK ap x r mm P (i + 1) = payK ap x r mm P i ++ [min r (P.getD i 0 * mm)] by rw [payK_snoc, GE]; rfl)
        have pv : P[i]? = some (P.getD i 0) := by rw [List.getD_eq_getElem?_getD, List.getElem?_eq_getElem (by rw [HPL.out]; exact hil)]; rfl
        obtain ⟨bP, oP, rfl, hbP, cp0, cp1⟩ := P0.out.at pv
        have sc := SC.out i
        unfold frv at sc
        injection sc with sc1 sc2
        injection sc1 with _ sc1
        injection sc2 with sc2 _
        injection sc2 with _ sc2
        rw [← sc1] at cp0
        rw [← sc2] at cp1
        obtain ⟨N, hN⟩ : ∃ z, redN (P.getD i 0 * mm) (D * mm) = z := ⟨_, rfl⟩
        obtain ⟨M, hM⟩ : ∃ z, redD (P.getD i 0 * mm) (D * mm) = z := ⟨_, rfl⟩
        obtain ⟨N', hN'⟩ : ∃ z, redN (min r (P.getD i 0 * mm)) (D * mm) = z := ⟨_, rfl⟩
        obtain ⟨M', hM'⟩ : ∃ z, redD (min r (P.getD i 0 * mm)) (D * mm) = z := ⟨_, rfl⟩
        have LE0 := LS.out i
        rw [hN, hM, hN', hM'] at LE0
        rw [hN] at cp0
        rw [hM] at cp1
        have LE := Lib.hid LE0
        have HNM := Lib.hid (And.intro hN' hM')
        have SS := Lib.hid (fun W (hW : Below (ge + 1 + 1) w1 W) (hB : Below w.heap.size w W) => (show Below (ge + 1 + 1) w1 W ∧ Below w.heap.size w W ∧ W.cell? ⟨ge + 1, 0, none⟩ = some (.int .i64 R0) ∧ W.cell? ⟨ge + 1, 1, none⟩ = some (.int .i64 R1) ∧ W.cell? ⟨bP, oP + i * 2, none⟩ = some (.int .i64 N) ∧ W.cell? ⟨bP, oP + i * 2 + 1, none⟩ = some (.int .i64 M) from
          ⟨hW, hB, (YC.out W hW).2.1, (YC.out W hW).2.2, (hB.cell (p := ⟨bP, oP + i * 2, none⟩) hbP).trans cp0, (hB.cell (p := ⟨bP, oP + i * 2 + 1, none⟩) hbP).trans cp1⟩))
        clear GE hh pv sc1 sc2 hN hM hN' hM' LE0 cp0 cp1
        go_wp2_with fail
        refine HC.out.mono ?_
        rintro e w2 ⟨rfl, rfl⟩
        go_wp2_with fail
        refine wp_region_noPanic ?_
        refine wp_region_R (inFirst (fun W => Below (ge + 1 + 1) w1 W ∧ Below w.heap.size w W ∧ W.cell? ⟨ge + 1, 0, none⟩ = some (.int .i64 R0) ∧ W.cell? ⟨ge + 1, 1, none⟩ = some (.int .i64 R1) ∧ W.cell? ⟨bP, oP + i * 2, none⟩ = some (.int .i64 N) ∧ W.cell? ⟨bP, oP + i * 2 + 1, none⟩ = some (.int .i64 M)) 10) (by kernel_rfl) ?_
        obtain ⟨v0, hv0⟩ : ∃ x, wr.drew = x := ⟨_, rfl⟩
        have bd : Below wr.heap.size wr v0 := by rw [← hv0]; exact ⟨rfl, rfl, rfl, Nat.le_refl _, fun _ _ => rfl⟩
        rw [hv0]
        clear hv0
        have B0 := Lib.hid bd
        have hS := SS.out v0 (bel_trans' BI.out bd gz2) (bel_trans BW.out bd)
        clear bd
        refine anyR_take (i := 0) (.slice (some ⟨g, 0, none⟩) i lc) rfl (by kernel_rfl) (by kernel_rfl) (by kernel_rfl) (by kernel_rfl) (fun _ _ _ h => h) (by assumption) ⟨by rfl, ?_⟩ ?_
        · intro W hW
          go_simp
        try simp only [Act.put, List.setIfInBounds_toArray, List.set_cons_zero, List.set_cons_succ, List.getElem_toArray, List.getElem_cons_zero, List.getElem_cons_succ]
        refine anyR_take (i := 1) (.agg #[.int .i64 R0, .int .i64 R1]) rfl (by kernel_rfl) (by kernel_rfl) (by kernel_rfl) (by kernel_rfl) (fun _ _ _ h => h) (by assumption) ⟨by rfl, ?_⟩ ?_
        · intro W hW
          go_simp
        try simp only [Act.put, List.setIfInBounds_toArray, List.set_cons_zero, List.set_cons_succ, List.getElem_toArray, List.getElem_cons_zero, List.getElem_cons_succ]
        refine anyR_take (i := 2) (.slice (some ⟨bP, oP, none⟩) n pc) rfl (by kernel_rfl) (by kernel_rfl) (by kernel_rfl) (by kernel_rfl) (fun _ _ _ h => h) (by assumption) ⟨by rfl, ?_⟩ ?_
        · intro W hW
          go_simp
        try simp only [Act.put, List.setIfInBounds_toArray, List.set_cons_zero, List.set_cons_succ, List.getElem_toArray, List.getElem_cons_zero, List.getElem_cons_succ]
        refine anyR_take (i := 3) (.int .i64 (i : Nat)) rfl (by kernel_rfl) (by kernel_rfl) (by kernel_rfl) (by kernel_rfl) (fun _ _ _ h => h) (by assumption) ⟨by rfl, ?_⟩ ?_
        · intro W hW
          go_simp
        try simp only [Act.put, List.setIfInBounds_toArray, List.set_cons_zero, List.set_cons_succ, List.getElem_toArray, List.getElem_cons_zero, List.getElem_cons_succ]
        refine anyR_take (i := 4) (.pointer (some ⟨bP, oP + i * 2, none⟩)) rfl (by kernel_rfl) (by kernel_rfl) (by kernel_rfl) (by kernel_rfl) (fun _ _ _ h => h) (by assumption) ⟨by rfl, ?_⟩ ?_
        · intro W hW
          go_simp
        try simp only [Act.put, List.setIfInBounds_toArray, List.set_cons_zero, List.set_cons_succ, List.getElem_toArray, List.getElem_cons_zero, List.getElem_cons_succ]
        refine anyR_take (i := 5) (.agg #[.int .i64 N, .int .i64 M]) rfl (by kernel_rfl) (by kernel_rfl) (by kernel_rfl) (by kernel_rfl) (fun _ _ _ h => h) (by assumption) ⟨by rfl, ?_⟩ ?_
        · intro W hW
          go_simp
        try simp only [Act.put, List.setIfInBounds_toArray, List.set_cons_zero, List.set_cons_succ, List.getElem_toArray, List.getElem_cons_zero, List.getElem_cons_succ]
        refine anyR_one (i := 6) (by kernel_rfl) rfl ?_
        intro K hK
        go_simp
        go_at_call 66
        refine (LE.out _).mono ?_
        rintro _ v1 ⟨rfl, c1⟩
        have B1' := Lib.hid (bel_trans B0.out c1)
        have hT := SS.out v1 (bel_trans' BI.out B1'.out gz2) (bel_trans BW.out B1'.out)
        refine hK.out _ _ (fun _ => hT) ?_
        clear hS c1
        have hS := hT
        clear hT
        clear hK K
        try simp only [Act.put, List.setIfInBounds_toArray, List.set_cons_zero, List.set_cons_succ, List.getElem_toArray, List.getElem_cons_zero, List.getElem_cons_succ]
        refine anyR_one (i := 7) (by kernel_rfl) rfl ?_
        intro K hK
        go_simp
        have a2 := bel_alloc v1 (.cells #[.int .i64 N', .int .i64 M'] 32)
        have HI0 := (BO.new 32 v1 (.int .i64 N') (.int .i64 M')).cells
        obtain ⟨v2, hv2⟩ : ∃ z, v1.alloc (.cells #[.int .i64 N', .int .i64 M'] 32) = z := ⟨_, rfl⟩
        obtain ⟨gI, hgI⟩ : ∃ z, v1.heap.size = z := ⟨_, rfl⟩
        rw [hv2] at a2 HI0
        rw [hgI] at HI0
        rw [hv2]
        try rw [hgI]
        clear hv2
        have B2' := Lib.hid (bel_trans B1'.out a2)
        have hT := SS.out v2 (bel_trans' BI.out B2'.out gz2) (bel_trans BW.out B2'.out)
        refine hK.out _ _ (fun _ => hT) ?_
        clear hS a2
        have hS := hT
        clear hT
        clear hK K
        try simp only [Act.put, List.setIfInBounds_toArray, List.set_cons_zero, List.set_cons_succ, List.getElem_toArray, List.getElem_cons_zero, List.getElem_cons_succ]
        have F2 := Lib.hid (FI.out.below B2'.out)
        have zz : ge + 1 + 1 ≤ v2.heap.size := by have := B2'.out.size; omega
        refine anyR_one (i := 8) (by kernel_rfl) rfl ?_
        intro K hK
        refine step_app_fr _ (by rfl) _ _ (by rfl) (ge + 1 + 1) (some ⟨g, 0, none⟩) i lc (D * mm) _ (by rfl) F2.out (min r (P.getD i 0 * mm)) N' M' HNM.out.1 HNM.out.2 gI (by rfl) HI0.1 HI0.2 (by omega) zz ?_
        intro A5 c5 v3 p1 p2 p3
        obtain ⟨g', rfl, _, _⟩ := OwnR.form p1 (by omega)
        have Q1 := Lib.hid p1
        have BL2 := Lib.hid ((bel_weak B2'.out gz2).grown p2 zz (fun y hy => (F2.out.block y hy).1))
        have Q2 := Lib.hid (bel_low BI.out BL2.out)
        have Q3 := Lib.hid (bel_trans BW.out B2'.out |>.grown p2 (bel_trans BW.out B2'.out).size (pay_low HGE.out (fun y hy => (F2.out.block y hy).1)))
        have hT := SS.out v3 Q2.out Q3.out
        refine hK.out _ _ (fun _ => hT) ?_
        clear p1 p2 p3 hS
        have hS := hT
        clear hT
        clear hK K
        try simp only [Act.put, List.setIfInBounds_toArray, List.set_cons_zero, List.set_cons_succ, List.getElem_toArray, List.getElem_cons_zero, List.getElem_cons_succ]
        refine anyR_take (i := 9) (.slice (some ⟨g', 0, none⟩) (i + 1) c5) rfl (by kernel_rfl) (by kernel_rfl) (by kernel_rfl) (by kernel_rfl) (fun _ _ _ h => h) (by assumption) ⟨by rfl, ?_⟩ ?_
        · intro W hW
          go_simp
        try simp only [Act.put, List.setIfInBounds_toArray, List.set_cons_zero, List.set_cons_succ, List.getElem_toArray, List.getElem_cons_zero, List.getElem_cons_succ]
        refine anyR_done (by kernel_rfl) ?_ _
        refine NoPanic.normal ?_
        clear SS
        go_wp2_with fail
        go_roundw
        case rel => exact ⟨i + 1, g', c5, by omega, rfl, by go_num, by rw [NX.out]; exact Q1.out, Q2.out, Q3.out⟩
        case measure => simp [intOf]; omega
    · obtain rfl : n = i := by omega
      have d0 := decide_eq_false (show ¬ (n : Int) < (n : Int) by omega)
      have FF := Lib.hid (OwnR.mono (b2 := w.heap.size) FI.out (by have := HGE.out; omega))
      go_wp2_with fail
      go_ret
      exact ⟨g, lc, rfl, FF.out, BW.out⟩
end Go.Proofs.Ytiodbjfchfmlcaa
