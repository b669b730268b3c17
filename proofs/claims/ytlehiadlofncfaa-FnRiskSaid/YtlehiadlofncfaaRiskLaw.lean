/- The law FnRisk: the risk falls with each ballot by the part of the ballots left that are right; the sample is the first one whose risk is within the limit. -/
import Derived.Test.YtlehiadlofncfaaMul
import Derived.Test.YtlehiadlofncfaaJoined
namespace Go.Proofs.Ytlehiadlofncfaa
set_option linter.unusedVariables false
open Go.RowKit

/-- The risk behind k ballots, in lowest terms, over Nat. -/
def rn (n w k : Nat) : Nat := chs (n - w) k / Nat.gcd (chs (n - w) k) (chs n k)
def rd (n w k : Nat) : Nat := chs n k / Nat.gcd (chs (n - w) k) (chs n k)
/-- The part of the ballots left that are right, in lowest terms. -/
def pn (n w k : Nat) : Nat := (n - w - k) / Nat.gcd (n - w - k) (n - k)
def pd (n w k : Nat) : Nat := (n - k) / Nat.gcd (n - w - k) (n - k)
def fallOk (n w k : Nat) : Bool :=
  let a := rn n w k * pn n w k
  let b := rd n w k * pd n w k
  decide (rn n w (k + 1) = a / Nat.gcd a b) && decide (rd n w (k + 1) = b / Nat.gcd a b)
theorem fall_all : ∀ n, n < 31 → ∀ w, w < n + 1 → ∀ k, k < n → fallOk n w k = true := by decide +kernel
theorem red_nat (a b : Nat) (hb : 0 < b) : redN a b = ((a / Nat.gcd a b : Nat) : Int) ∧ redD a b = ((b / Nat.gcd a b : Nat) : Int) := by
  have e : gcdI (absI (a : Int)) (b : Int) = (Nat.gcd a b : Nat) := by unfold gcdI; rw [absI_toNat]; simp
  unfold redN redD
  rw [e, Int.tdiv_eq_ediv_of_nonneg (by omega), Int.tdiv_eq_ediv_of_nonneg (by omega), Int.natCast_ediv, Int.natCast_ediv]
  exact ⟨rfl, rfl⟩
theorem risk_nat {n w k : Nat} (hw : w ≤ n) (hk : k ≤ n) (hn : n ≤ 30) : riskN n w k = (rn n w k : Nat) ∧ riskD n w k = (rd n w k : Nat) := by
  have e1 : chsI ((n : Int) - w) k = (chs (n - w) k : Nat) := by unfold chsI; congr 2; omega
  have e2 : chsI (n : Int) k = (chs n k : Nat) := by unfold chsI; simp
  have hpos : 0 < chs n k := by
    have := (chsT_bd (n := n) (i := k) hn hk).1
    unfold chs; rw [if_neg (by omega)]; omega
  unfold riskN riskD
  rw [e1, e2]
  exact red_nat _ _ hpos
theorem riskN_bd {n w k : Nat} (hw : w ≤ n) (hk : k ≤ n) (hn : n ≤ 30) : 0 ≤ riskN n w k ∧ riskN n w k ≤ 155117520 ∧ 1 ≤ riskD n w k ∧ riskD n w k ≤ 155117520 := by
  obtain ⟨a1, a2, a3, a4⟩ := risk_bd (b := n) (x := w) (s := k) (by omega) (by omega) (by omega) (by omega) (by omega) (by omega)
  have g1 := red_bd (n := chsI ((n : Int) - w) k) (d := chsI n k) (b := 155117520) (by omega) a2
  have g2 := redD_bd (n := chsI ((n : Int) - w) k) (d := chsI n k) (b := 155117520) a3 a4
  have g3 := redN_nonneg (n := chsI ((n : Int) - w) k) (d := chsI n k) a1
  exact ⟨g3, g1.2, g2.1, g2.2⟩
theorem risk_zero {n w : Nat} (hw : w ≤ n) (hn : n ≤ 30) : riskN n w (0 : Nat) = 1 ∧ riskD n w (0 : Nat) = 1 := by
  obtain ⟨h1, h2⟩ := risk_nat (k := 0) hw (Nat.zero_le _) hn
  rw [h1, h2]
  have e1 : chs (n - w) 0 = 1 := by unfold chs; simp [chsT]
  have e2 : chs n 0 = 1 := by unfold chs; simp [chsT]
  simp [rn, rd, e1, e2]
/-- The risk falls by the part of the ballots left that are right. -/
theorem risk_fall {n w k : Nat} (hw : w ≤ n) (hk : k < n) (hn : n ≤ 30) {L : Int} (hL : L = ((n - w - k : Nat) : Int)) :
    redN (riskN n w k * redN L ((n : Int) - k)) (riskD n w k * redD L ((n : Int) - k)) = riskN n w ((k : Int) + 1) ∧ redD (riskN n w k * redN L ((n : Int) - k)) (riskD n w k * redD L ((n : Int) - k)) = riskD n w ((k : Int) + 1) := by
  subst hL
  obtain ⟨h1, h2⟩ := risk_nat (k := k) hw (by omega) hn
  obtain ⟨h3, h4⟩ := risk_nat (k := k + 1) hw (by omega) hn
  have e : (n : Int) - k = ((n - k : Nat) : Int) := by omega
  obtain ⟨h5, h6⟩ := red_nat (n - w - k) (n - k) (by omega)
  have hb := riskN_bd (k := k) hw (by omega) hn
  have hc := redD_bd (n := ((n - w - k : Nat) : Int)) (d := ((n - k : Nat) : Int)) (b := 100) (by omega) (by omega)
  have ht := fall_all n (by omega) w (by omega) k hk
  simp only [fallOk, Bool.and_eq_true, decide_eq_true_eq] at ht
  have hp1 : 0 < rd n w k := by rw [h2] at hb; omega
  have hp2 : 0 < (n - k) / Nat.gcd (n - w - k) (n - k) := by rw [h6] at hc; omega
  rw [show ((k : Int) + 1) = ((k + 1 : Nat) : Int) by omega, h3, h4, e, h1, h2, h5, h6, ← Int.natCast_mul, ← Int.natCast_mul, ht.1, ht.2]
  exact red_nat _ _ (Nat.mul_pos hp1 hp2)
/-- Two cells of a block hold a fraction. -/
def CellsOk (w : World) (g : Nat) (a b : Int) : Prop := w.cell? ⟨g, 0, none⟩ = some (.int .i64 a) ∧ w.cell? ⟨g, 1, none⟩ = some (.int .i64 b) ∧ w.frozen? ⟨g, 0, none⟩ = false ∧ w.frozen? ⟨g, 1, none⟩ = false
theorem CellsOk.below {w w' : World} {g : Nat} {a b : Int} (h : CellsOk w g a b) (hb : Below w.heap.size w w') (hg : g < w.heap.size) : CellsOk w' g a b :=
  ⟨(hb.cell (p := ⟨g, 0, none⟩) hg).trans h.1, (hb.cell (p := ⟨g, 1, none⟩) hg).trans h.2.1, (hb.frozen (p := ⟨g, 0, none⟩) hg).trans h.2.2.1, (hb.frozen (p := ⟨g, 1, none⟩) hg).trans h.2.2.2⟩
/-- A fraction is stored, then a new block is made. -/
theorem cells_set {w : World} {g : Nat} {a b : Int} (h : CellsOk w g a b) (hg : g < w.heap.size) (x y : Int) (o : Obj) : CellsOk (((w.setCell ⟨g, 0, none⟩ (.int .i64 x)).setCell ⟨g, 1, none⟩ (.int .i64 y)).alloc o) g x y := by
  have hg2 : g < ((w.setCell ⟨g, 0, none⟩ (.int .i64 x)).setCell ⟨g, 1, none⟩ (.int .i64 y)).heap.size := by simpa [World.setCell] using hg
  have e0 : (w.setCell ⟨g, 0, none⟩ (.int .i64 x)).cell? ⟨g, 0, none⟩ = some (.int .i64 x) := World.cell?_setCell_same w _ _ h.1
  have e1 : (w.setCell ⟨g, 0, none⟩ (.int .i64 x)).cell? ⟨g, 1, none⟩ = some (.int .i64 b) := (World.cell?_setCell_other w _ _ _ (by simp)).trans h.2.1
  refine ⟨?_, ?_, ?_, ?_⟩
  · rw [World.cell?_alloc_past _ _ _ hg2, World.cell?_setCell_other _ _ _ _ (by simp)]; exact e0
  · rw [World.cell?_alloc_past _ _ _ hg2]; exact World.cell?_setCell_same _ _ _ e1
  · rw [World.frozen?_alloc_past _ _ _ hg2, World.frozen?_setCell, World.frozen?_setCell]; exact h.2.2.1
  · rw [World.frozen?_alloc_past _ _ _ hg2, World.frozen?_setCell, World.frozen?_setCell]; exact h.2.2.2
theorem cells_far {w : World} {g g' : Nat} {a b : Int} (h : CellsOk w g a b) (hg : g < w.heap.size) (hne : g ≠ g') (x y : Int) (o : Obj) : CellsOk (((w.setCell ⟨g', 0, none⟩ (.int .i64 x)).setCell ⟨g', 1, none⟩ (.int .i64 y)).alloc o) g a b := by
  have hg2 : g < ((w.setCell ⟨g', 0, none⟩ (.int .i64 x)).setCell ⟨g', 1, none⟩ (.int .i64 y)).heap.size := by simpa [World.setCell] using hg
  refine ⟨?_, ?_, ?_, ?_⟩
  · rw [World.cell?_alloc_past _ _ _ hg2, World.cell?_setCell_other _ _ _ _ (fun e => hne (by injection e with e; exact e.symm)), World.cell?_setCell_other _ _ _ _ (fun e => hne (by injection e with e; exact e.symm))]; exact h.1
  · rw [World.cell?_alloc_past _ _ _ hg2, World.cell?_setCell_other _ _ _ _ (fun e => hne (by injection e with e; exact e.symm)), World.cell?_setCell_other _ _ _ _ (fun e => hne (by injection e with e; exact e.symm))]; exact h.2.1
  · rw [World.frozen?_alloc_past _ _ _ hg2, World.frozen?_setCell, World.frozen?_setCell]; exact h.2.2.1
  · rw [World.frozen?_alloc_past _ _ _ hg2, World.frozen?_setCell, World.frozen?_setCell]; exact h.2.2.2
theorem step_below {W w : World} {g : Nat} (hb : Below W.heap.size W w) (hg : W.heap.size ≤ g) (x y : Value) (o : Obj) : Below W.heap.size W (((w.setCell ⟨g, 0, none⟩ x).setCell ⟨g, 1, none⟩ y).alloc o) :=
  bel_trans ((hb.setCell hg _).setCell hg _) (bel_alloc _ _)
theorem step_size {w : World} {g k : Nat} (hk : k < w.heap.size) (x y : Value) (o : Obj) : k < (((w.setCell ⟨g, 0, none⟩ x).setCell ⟨g, 1, none⟩ y).alloc o).heap.size := by
  simp [World.setCell]; omega
theorem mulFractions_to (a b c d x y : Int) (w : World) (h1 : okF a b = true) (h2 : okF c d = true) (ha : 0 ≤ a) (hc : 0 ≤ c) (hx : redN (a * c) (b * d) = x) (hy : redD (a * c) (b * d) = y) (h3 : okF x y = true) :
    Calls Try.prog 38 #[.agg #[.int .i64 a, .int .i64 b], .agg #[.int .i64 c, .int .i64 d]] w (GivesF x y true w) := by
  subst hx hy
  exact mulFractions_in a b c d w h1 h2 ha hc h3
theorem fractionOf_to (n d x y : Int) (w : World) (h0 : 0 ≤ n) (h1 : n ≤ 1000000000) (h2 : 1 ≤ d) (h3 : d ≤ 1000000000) (hx : redN n d = x) (hy : redD n d = y) :
    Calls Try.prog 34 #[.int .i64 n, .int .i64 d] w (GivesF x y true w) := by
  subst hx hy
  exact fractionOf_in n d w (by omega) h1 h2 h3
/-- What is known behind j samples: either one was found, or the first one is still to come. -/
def FndOk (N X : Nat) (ln ld : Int) (fd : Bool) (j : Nat) : Prop := (fd = true → sampOk N X ln ld = true) ∧ (fd = false → sampF N X ln ld ((N : Int) + 1 - j).toNat j = sampI N X ln ld)
theorem FndOk.start {N X : Nat} {ln ld : Int} : FndOk N X ln ld false 0 := ⟨fun h => (by cases h), fun _ => (by simp [sampI])⟩
theorem FndOk.hit {N X : Nat} {ln ld : Int} {j : Nat} (h : FndOk N X ln ld false j) (hl : okF ln ld = true) (hN : N ≤ 30) (hX : X ≤ N) (hj : j ≤ N) (hc : cmpF (riskN N X j) (riskD N X j) ln ld ≤ 0) : sampOk N X ln ld = true ∧ sampV N X ln ld = j :=
  samp_yes hl (inR_true.2 ⟨by omega, by omega⟩) (inR_true.2 ⟨by omega, by omega⟩) ((h.2 rfl).symm.trans (sampF_hit (by omega) (by omega) hc)) (by omega)
theorem FndOk.miss {N X : Nat} {ln ld : Int} {j : Nat} (h : FndOk N X ln ld false j) (hj : j ≤ N) (hc : ¬ cmpF (riskN N X j) (riskD N X j) ln ld ≤ 0) : FndOk N X ln ld false (j + 1) :=
  ⟨fun h => (by cases h), fun _ => by
    have := (sampF_miss (b := N) (x := X) (ln := ln) (ld := ld) (k := j) (m := ((N : Int) + 1 - j).toNat) (by omega) (by omega) hc).symm.trans (h.2 rfl)
    rwa [show ((N : Int) + 1 - (j : Int)).toNat - 1 = ((N : Int) + 1 - ((j + 1 : Nat) : Int)).toNat by omega] at this⟩
theorem FndOk.yes {N X : Nat} {ln ld : Int} {j : Nat} (h : sampOk N X ln ld = true) : FndOk N X ln ld true j := ⟨fun _ => h, fun h => (by cases h)⟩
theorem FndOk.done {N X : Nat} {ln ld : Int} {fd : Bool} (h : FndOk N X ln ld fd (N + 1)) : sampOk N X ln ld = fd := by
  cases fd
  · have := h.2 rfl
    rw [sampF_end (by omega) (by omega)] at this
    exact samp_neg this.symm
  · exact h.1 rfl
theorem r8Whole_any (n : Int) (w : World) :
    Calls Try.prog 36 #[.int .i64 n] w fun e w' => e = .returned (.agg #[.int .i64 n, .int .i64 1]) ∧ Below w.heap.size w w' := by
  go_enter Try.func36, Try.ntmps36
  go_wp2_with fail
  exact bodyPost_ret (v := .agg #[.int .i64 n, .int .i64 1]) (by simp [results, Try.results36, go_sem]) rfl ⟨rfl, bel_alloc w _⟩
set_option maxRecDepth 100000 in
set_option maxHeartbeats 8000000 in
theorem fnRisk_walk (w : World) (A : Option Addr) (n c : Nat) (zs : List Int) (h : Ints .u8 w A n c zs) (B : Option Addr) (m d : Nat) (ys : List Int) (k : Ints .u8 w B m d ys) :
    Calls Try.prog 9 #[.slice A n c, .slice B m d] w fun e w' => e = .returned (.bool true) ∧ Below w.heap.size w w' := by
  have hn := h.short
  have hm := k.short
  by_cases h1 : (decide ((48 : Int) < n) || decide ((48 : Int) < m)) = true
  · have H1 := Lib.hid h1
    clear h1
    go_enter Try.func9, Try.ntmps9
    go_wp2_with fail
    refine (r8Long_any A n c B m d _ hn hm).mono ?_
    rintro e w1 ⟨rfl, rfl⟩
    rw [H1.out]
    go_wp2_with fail
    go_ret
    exact ⟨rfl, Below.refl _ _⟩
  · have H1 : Hid ((decide ((48 : Int) < n) || decide ((48 : Int) < m)) = false) := by show _ = _; simpa using h1
    clear h1
    go_enter Try.func9, Try.ntmps9
    go_wp2_with fail
    refine (r8Long_any A n c B m d _ hn hm).mono ?_
    rintro e w1 ⟨rfl, rfl⟩
    rw [H1.out]
    go_wp2_with fail
    refine (r8At_any A n c zs 0 31 _ h (by omega) (by omega)).mono ?_
    rintro e w1 ⟨r, rfl, hr, b1⟩
    obtain ⟨r0, r1⟩ := hr.lt (by omega)
    obtain ⟨N, rfl⟩ := Int.eq_ofNat_of_zero_le r0
    go_wp2_with fail
    refine (r8At_any A n c zs 1 ((N : Int) + 1) _ (h.below b1) (by omega) (by omega)).mono ?_
    rintro e w2 ⟨r, rfl, hx, b2⟩
    obtain ⟨x0, x1⟩ := hx.lt (by omega)
    obtain ⟨X, rfl⟩ := Int.eq_ofNat_of_zero_le x0
    have b12 := bel_trans b1 b2
    go_wp2_with fail
    refine (r8At_any A n c zs 2 5 _ (h.below b12) (by omega) (by omega)).mono ?_
    rintro e w3 ⟨p, rfl, hp, b3⟩
    obtain ⟨p0, p1⟩ := hp.lt (by omega)
    have b13 := bel_trans b12 b3
    go_wp2_with fail
    refine (r8At_any B m d ys 0 40 _ (k.below b13) (by omega) (by omega)).mono ?_
    rintro e w4 ⟨q, rfl, hq, b4⟩
    obtain ⟨q0, q1⟩ := hq.lt (by omega)
    have b14 := bel_trans b13 b4
    obtain ⟨ln, hln⟩ : ∃ ln, redN p (1 + q) = ln := ⟨_, rfl⟩
    obtain ⟨ld, hld⟩ : ∃ ld, redD p (1 + q) = ld := ⟨_, rfl⟩
    have okl := red_ok (n := p) (d := 1 + q) (by omega) (by omega) (by omega) (by omega)
    rw [hln, hld] at okl
    have OKL := Lib.hid okl
    have HL := Lib.hid hln
    have HD := Lib.hid hld
    obtain ⟨f1, f2, f3, f4, _⟩ := okF_true okl
    clear okl hln hld
    go_wp2_with fail
    refine (fractionOf_in p (1 + q) _ (by omega) (by omega) (by omega) (by omega)).mono ?_
    rintro e w5 ⟨rfl, b5⟩
    rw [HL.out, HD.out]
    have b15 := bel_trans b14 b5
    go_wp2_with fail
    refine (implSampleFor_any N X ln ld _).mono ?_
    rintro e w6 ⟨rfl, b6⟩
    obtain ⟨sv, hsv⟩ : ∃ sv, sampV N X ln ld = sv := ⟨_, rfl⟩
    obtain ⟨so, hso⟩ : ∃ so, sampOk N X ln ld = so := ⟨_, rfl⟩
    rw [hsv, hso]
    have HSV := Lib.hid hsv
    have HSO := Lib.hid hso
    clear hsv hso
    obtain ⟨hca, hfa⟩ := bcell b6
    have hza : w5.heap.size < w6.heap.size := by have := b6.size; simp at this; omega
    have q0a := (hca _ 0 (by simp)).trans (new2 w5 _ _ _).1
    have q1a := (hca _ 1 (by simp)).trans (new2 w5 _ _ _).2
    have r0a := (hfa _ 0 (by simp)).trans (World.frozen?_alloc_at _ _ _ _ rfl)
    have r1a := (hfa _ 1 (by simp)).trans (World.frozen?_alloc_at _ _ _ _ rfl)
    clear hca hfa
    have b16 := bel_trans (bel_trans b15 (bel_alloc _ _)) b6
    go_wp2_with fail
    refine (r8Whole_any 1 _).mono ?_
    rintro e w7 ⟨rfl, b7⟩
    have q0b := (b7.cell (p := ⟨w5.heap.size, 0, none⟩) hza).trans q0a
    have q1b := (b7.cell (p := ⟨w5.heap.size, 1, none⟩) hza).trans q1a
    have r0b := (b7.frozen (p := ⟨w5.heap.size, 0, none⟩) hza).trans r0a
    have r1b := (b7.frozen (p := ⟨w5.heap.size, 1, none⟩) hza).trans r1a
    have hzb : w5.heap.size < w7.heap.size := Nat.lt_of_lt_of_le hza b7.size
    have b17 := bel_trans b16 b7
    go_wp2_with fail
    obtain ⟨bl, hbl⟩ : ∃ bl, bl = w5.heap.size := ⟨_, rfl⟩
    obtain ⟨bt, hbt⟩ : ∃ bt, bt = w7.heap.size := ⟨_, rfl⟩
    have N7 := new2 w7 (.int .i64 1) (.int .i64 1) 36
    have F7 : ∀ j, (w7.alloc (.cells #[.int .i64 1, .int .i64 1] 36)).frozen? ⟨w7.heap.size, j, none⟩ = false := fun j => World.frozen?_alloc_at _ _ _ _ rfl
    have hs7 : bl < bt := by rw [hbl, hbt]; exact hzb
    have hw5 : w.heap.size ≤ bl := by rw [hbl]; exact b15.size
    rw [← hbl] at q0b q1b r0b r1b hzb
    rw [← hbt] at N7 F7
    rw [← hbl, ← hbt]
    have hz0 : bt < (w7.alloc (.cells #[.int .i64 1, .int .i64 1] 36)).heap.size := by rw [hbt]; simp
    have Z := risk_zero (n := N) (w := X) (by omega) (by omega)
    clear hbl hbt q0a q1a r0a r1a hza
    go_loopw [11, 13] (fun f i wr => ∃ (j : Nat) (fd : Bool), j ≤ N ∧ f = .bool fd ∧ i = .int .i64 j ∧ FndOk N X ln ld fd j ∧ Below w.heap.size w wr ∧ bt < wr.heap.size ∧ CellsOk wr bl ln ld ∧ CellsOk wr bt (riskN N X j) (riskD N X j)) (fun _ i _ => N + 1 - (intOf i).toNat)
    case atStart => exact ⟨0, false, by omega, rfl, rfl, FndOk.start, bel_trans b17 (bel_alloc _ _), hz0, ⟨(World.cell?_alloc_past _ _ _ hzb).trans q0b, (World.cell?_alloc_past _ _ _ hzb).trans q1b, (World.frozen?_alloc_past _ _ _ hzb).trans r0b, (World.frozen?_alloc_past _ _ _ hzb).trans r1b⟩, ⟨by rw [Z.1]; exact N7.1, by rw [Z.2]; exact N7.2, F7 0, F7 1⟩⟩
    case round =>
      obtain ⟨j, fd, hj, rfl, rfl, hfnd, hbel, hzr, hcl, hct⟩ := hrel
      have HF := Lib.hid hfnd
      clear hfnd
      have hzl : bl < wr.heap.size := by omega
      obtain ⟨g0, g1, g2, g3⟩ := riskN_bd (n := N) (w := X) (k := j) (by omega) hj (by omega)
      have OKR := Lib.hid (risk_ok (b := N) (x := X) (s := j) (by omega) (by omega) (by omega) (by omega) (by omega) (by omega))
      obtain ⟨a, ha⟩ : ∃ a, riskN N X j = a := ⟨_, rfl⟩
      obtain ⟨b, hb⟩ : ∃ b, riskD N X j = b := ⟨_, rfl⟩
      have CR := implRiskOf_in N X j wr (by omega) (by omega) (by omega) (by omega) (by omega) (by omega)
      rw [ha] at g0 g1 OKR hct CR
      rw [hb] at g2 g3 OKR hct CR
      have HA := Lib.hid ha
      have HB := Lib.hid hb
      clear ha hb
      have CR' := Lib.hid CR
      clear CR
      cases fd
      · by_cases hc : cmpF a b ln ld ≤ 0
        · obtain ⟨e1, e2⟩ := HF.out.hit OKL.out (by omega) (by omega) hj (by rw [HA.out, HB.out]; exact hc)
          obtain rfl : so = true := HSO.out.symm.trans e1
          obtain rfl : sv = j := HSV.out.symm.trans e2
          have HN : Hid (FndOk N X ln ld true (j + 1)) := FndOk.yes e1
          clear e1 e2
          by_cases hjN : j = N
          · subst hjN
            go_wp2_with fail
            refine CR'.out.mono ?_
            rintro e w8 ⟨rfl, b8⟩
            have cl8 := hcl.below b8 hzl
            have ct8 := hct.below b8 hzr
            obtain ⟨l0, l1, l2, l3⟩ := cl8
            obtain ⟨t0, t1, t2, t3⟩ := ct8
            have hz8 : bt < w8.heap.size := Nat.lt_of_lt_of_le hzr b8.size
            have hl8 : bl < w8.heap.size := by omega
            go_wp2_with fail
            refine (compareFractions_in a b ln ld _ OKR.out OKL.out).mono ?_
            rintro e w9 ⟨rfl, b9⟩
            have b89 := bel_trans (bel_alloc w8 _) b9
            have b99 := bel_trans (bel_trans hbel b8) b89
            obtain ⟨hcc, hfc⟩ := bcell b9
            have hzc : w8.heap.size < w9.heap.size := by have := b9.size; simp at this; omega
            have q0c := (hcc _ 0 (by simp)).trans (new2 w8 _ _ _).1
            have q1c := (hcc _ 1 (by simp)).trans (new2 w8 _ _ _).2
            have r0c := (hfc _ 0 (by simp)).trans (World.frozen?_alloc_at _ _ _ _ rfl)
            have r1c := (hfc _ 1 (by simp)).trans (World.frozen?_alloc_at _ _ _ _ rfl)
            clear hcc hfc
            have m0 := (b89.cell (p := ⟨bt, 0, none⟩) hz8).trans t0
            have m1 := (b89.cell (p := ⟨bt, 1, none⟩) hz8).trans t1
            have m2 := (b89.frozen (p := ⟨bt, 0, none⟩) hz8).trans t2
            have m3 := (b89.frozen (p := ⟨bt, 1, none⟩) hz8).trans t3
            have hz9 : bt < w9.heap.size := Nat.lt_of_lt_of_le hz8 b89.size
            have hl9 : bl < w9.heap.size := by omega
            go_wp2_with fail
            go_ret
            exact ⟨rfl, b99⟩
          · by_cases hL : (N : Int) - X - j < 0
            · skip
              go_wp2_with fail
              refine CR'.out.mono ?_
              rintro e w8 ⟨rfl, b8⟩
              have cl8 := hcl.below b8 hzl
              have ct8 := hct.below b8 hzr
              obtain ⟨l0, l1, l2, l3⟩ := cl8
              obtain ⟨t0, t1, t2, t3⟩ := ct8
              have hz8 : bt < w8.heap.size := Nat.lt_of_lt_of_le hzr b8.size
              have hl8 : bl < w8.heap.size := by omega
              go_wp2_with fail
              refine (compareFractions_in a b ln ld _ OKR.out OKL.out).mono ?_
              rintro e w9 ⟨rfl, b9⟩
              have b89 := bel_trans (bel_alloc w8 _) b9
              have b99 := bel_trans (bel_trans hbel b8) b89
              obtain ⟨hcc, hfc⟩ := bcell b9
              have hzc : w8.heap.size < w9.heap.size := by have := b9.size; simp at this; omega
              have q0c := (hcc _ 0 (by simp)).trans (new2 w8 _ _ _).1
              have q1c := (hcc _ 1 (by simp)).trans (new2 w8 _ _ _).2
              have r0c := (hfc _ 0 (by simp)).trans (World.frozen?_alloc_at _ _ _ _ rfl)
              have r1c := (hfc _ 1 (by simp)).trans (World.frozen?_alloc_at _ _ _ _ rfl)
              clear hcc hfc
              have m0 := (b89.cell (p := ⟨bt, 0, none⟩) hz8).trans t0
              have m1 := (b89.cell (p := ⟨bt, 1, none⟩) hz8).trans t1
              have m2 := (b89.frozen (p := ⟨bt, 0, none⟩) hz8).trans t2
              have m3 := (b89.frozen (p := ⟨bt, 1, none⟩) hz8).trans t3
              have hz9 : bt < w9.heap.size := Nat.lt_of_lt_of_le hz8 b89.size
              have hl9 : bl < w9.heap.size := by omega
              go_wp2_with fail
              have hk0 : (0 : Int) ≤ (0 : Int) := by omega
              have hk1 : (0 : Int) ≤ 1000000000 := by omega
              obtain ⟨P, hP⟩ : ∃ P, redN (0 : Int) ((N : Int) - j) = P := ⟨_, rfl⟩
              obtain ⟨Q, hQ⟩ : ∃ Q, redD (0 : Int) ((N : Int) - j) = Q := ⟨_, rfl⟩
              have hfall := risk_fall (n := N) (w := X) (k := j) (by omega) (by omega) (by omega) (L := (0 : Int)) (by omega)
              have okp := red_ok (n := (0 : Int)) (d := (N : Int) - j) (by omega) hk1 (by omega) (by omega)
              have P0 := redN_nonneg (n := (0 : Int)) (d := (N : Int) - j) hk0
              have okn := risk_ok (b := N) (x := X) (s := (j : Int) + 1) (by omega) (by omega) (by omega) (by omega) (by omega) (by omega)
              obtain ⟨x, hx⟩ : ∃ x, riskN N X ((j : Int) + 1) = x := ⟨_, rfl⟩
              obtain ⟨y, hy⟩ : ∃ y, riskD N X ((j : Int) + 1) = y := ⟨_, rfl⟩
              rw [hP, hQ] at okp hfall
              rw [hP] at P0
              rw [HA.out, HB.out, hx, hy] at hfall
              rw [hx, hy] at okn
              have HF1 := Lib.hid hfall.1
              have HF2 := Lib.hid hfall.2
              have OKP := Lib.hid okp
              have OKN := Lib.hid okn
              have HX := Lib.hid hx
              have HY := Lib.hid hy
              have HP := Lib.hid hP
              have HQ := Lib.hid hQ
              clear hfall okp okn hx hy hP hQ
              refine (fractionOf_to (0 : Int) ((N : Int) - j) P Q _ hk0 hk1 (by omega) (by omega) HP.out HQ.out).mono ?_
              rintro e w10 ⟨rfl, b10⟩
              have b910 := bel_trans b99 b10
              have n0 := (b10.cell (p := ⟨bt, 0, none⟩) hz9).trans m0
              have n1 := (b10.cell (p := ⟨bt, 1, none⟩) hz9).trans m1
              have n2 := (b10.frozen (p := ⟨bt, 0, none⟩) hz9).trans m2
              have n3 := (b10.frozen (p := ⟨bt, 1, none⟩) hz9).trans m3
              have hz10 : bt < w10.heap.size := Nat.lt_of_lt_of_le hz9 b10.size
              have q0d := (b10.cell (p := ⟨w8.heap.size, 0, none⟩) hzc).trans q0c
              have q1d := (b10.cell (p := ⟨w8.heap.size, 1, none⟩) hzc).trans q1c
              have r0d := (b10.frozen (p := ⟨w8.heap.size, 0, none⟩) hzc).trans r0c
              have r1d := (b10.frozen (p := ⟨w8.heap.size, 1, none⟩) hzc).trans r1c
              have hzd : w8.heap.size < w10.heap.size := Nat.lt_of_lt_of_le hzc b10.size
              go_wp2_with fail
              refine (mulFractions_to a b P Q x y _ OKR.out OKP.out g0 P0 HF1.out HF2.out OKN.out).mono ?_
              rintro e w11 ⟨rfl, b11⟩
              have b1011 := bel_trans (bel_alloc w10 _) b11
              have b911 := bel_trans b910 b1011
              have o0 := (b1011.cell (p := ⟨bt, 0, none⟩) hz10).trans n0
              have o1 := (b1011.cell (p := ⟨bt, 1, none⟩) hz10).trans n1
              have o2 := (b1011.frozen (p := ⟨bt, 0, none⟩) hz10).trans n2
              have o3 := (b1011.frozen (p := ⟨bt, 1, none⟩) hz10).trans n3
              have hz11 : bt < w11.heap.size := Nat.lt_of_lt_of_le hz10 b1011.size
              have hl11 : bl < w11.heap.size := by omega
              have hl10 : bl < w10.heap.size := by omega
              have hcl11 := Lib.hid ((((hcl.below b8 hzl).below b89 hl8).below b10 hl9).below b1011 hl10)
              have hwt : w.heap.size ≤ bt := by omega
              have hne : bl ≠ bt := by omega
              have HC11 : Hid (CellsOk w11 bt a b) := ⟨o0, o1, o2, o3⟩
              have hj1 : j + 1 ≤ N := by omega
              have HX1 : Hid (riskN N X ((j + 1 : Nat) : Int) = x) := HX.out
              have HY1 : Hid (riskD N X ((j + 1 : Nat) : Int) = y) := HY.out
              go_wp2_with fail
              go_roundw
              case rel => exact ⟨j + 1, _, hj1, rfl, by go_num, HN.out, step_below b911 hwt _ _ _, step_size hz11 _ _ _, cells_far hcl11.out hl11 hne x y _, by rw [HX1.out, HY1.out]; exact cells_set HC11.out hz11 x y _⟩
              case measure => simp [intOf]; omega
            · skip
              go_wp2_with fail
              refine CR'.out.mono ?_
              rintro e w8 ⟨rfl, b8⟩
              have cl8 := hcl.below b8 hzl
              have ct8 := hct.below b8 hzr
              obtain ⟨l0, l1, l2, l3⟩ := cl8
              obtain ⟨t0, t1, t2, t3⟩ := ct8
              have hz8 : bt < w8.heap.size := Nat.lt_of_lt_of_le hzr b8.size
              have hl8 : bl < w8.heap.size := by omega
              go_wp2_with fail
              refine (compareFractions_in a b ln ld _ OKR.out OKL.out).mono ?_
              rintro e w9 ⟨rfl, b9⟩
              have b89 := bel_trans (bel_alloc w8 _) b9
              have b99 := bel_trans (bel_trans hbel b8) b89
              obtain ⟨hcc, hfc⟩ := bcell b9
              have hzc : w8.heap.size < w9.heap.size := by have := b9.size; simp at this; omega
              have q0c := (hcc _ 0 (by simp)).trans (new2 w8 _ _ _).1
              have q1c := (hcc _ 1 (by simp)).trans (new2 w8 _ _ _).2
              have r0c := (hfc _ 0 (by simp)).trans (World.frozen?_alloc_at _ _ _ _ rfl)
              have r1c := (hfc _ 1 (by simp)).trans (World.frozen?_alloc_at _ _ _ _ rfl)
              clear hcc hfc
              have m0 := (b89.cell (p := ⟨bt, 0, none⟩) hz8).trans t0
              have m1 := (b89.cell (p := ⟨bt, 1, none⟩) hz8).trans t1
              have m2 := (b89.frozen (p := ⟨bt, 0, none⟩) hz8).trans t2
              have m3 := (b89.frozen (p := ⟨bt, 1, none⟩) hz8).trans t3
              have hz9 : bt < w9.heap.size := Nat.lt_of_lt_of_le hz8 b89.size
              have hl9 : bl < w9.heap.size := by omega
              go_wp2_with fail
              have hk0 : (0 : Int) ≤ ((N : Int) - X - j) := by omega
              have hk1 : ((N : Int) - X - j) ≤ 1000000000 := by omega
              obtain ⟨P, hP⟩ : ∃ P, redN ((N : Int) - X - j) ((N : Int) - j) = P := ⟨_, rfl⟩
              obtain ⟨Q, hQ⟩ : ∃ Q, redD ((N : Int) - X - j) ((N : Int) - j) = Q := ⟨_, rfl⟩
              have hfall := risk_fall (n := N) (w := X) (k := j) (by omega) (by omega) (by omega) (L := ((N : Int) - X - j)) (by omega)
              have okp := red_ok (n := ((N : Int) - X - j)) (d := (N : Int) - j) (by omega) hk1 (by omega) (by omega)
              have P0 := redN_nonneg (n := ((N : Int) - X - j)) (d := (N : Int) - j) hk0
              have okn := risk_ok (b := N) (x := X) (s := (j : Int) + 1) (by omega) (by omega) (by omega) (by omega) (by omega) (by omega)
              obtain ⟨x, hx⟩ : ∃ x, riskN N X ((j : Int) + 1) = x := ⟨_, rfl⟩
              obtain ⟨y, hy⟩ : ∃ y, riskD N X ((j : Int) + 1) = y := ⟨_, rfl⟩
              rw [hP, hQ] at okp hfall
              rw [hP] at P0
              rw [HA.out, HB.out, hx, hy] at hfall
              rw [hx, hy] at okn
              have HF1 := Lib.hid hfall.1
              have HF2 := Lib.hid hfall.2
              have OKP := Lib.hid okp
              have OKN := Lib.hid okn
              have HX := Lib.hid hx
              have HY := Lib.hid hy
              have HP := Lib.hid hP
              have HQ := Lib.hid hQ
              clear hfall okp okn hx hy hP hQ
              refine (fractionOf_to ((N : Int) - X - j) ((N : Int) - j) P Q _ hk0 hk1 (by omega) (by omega) HP.out HQ.out).mono ?_
              rintro e w10 ⟨rfl, b10⟩
              have b910 := bel_trans b99 b10
              have n0 := (b10.cell (p := ⟨bt, 0, none⟩) hz9).trans m0
              have n1 := (b10.cell (p := ⟨bt, 1, none⟩) hz9).trans m1
              have n2 := (b10.frozen (p := ⟨bt, 0, none⟩) hz9).trans m2
              have n3 := (b10.frozen (p := ⟨bt, 1, none⟩) hz9).trans m3
              have hz10 : bt < w10.heap.size := Nat.lt_of_lt_of_le hz9 b10.size
              have q0d := (b10.cell (p := ⟨w8.heap.size, 0, none⟩) hzc).trans q0c
              have q1d := (b10.cell (p := ⟨w8.heap.size, 1, none⟩) hzc).trans q1c
              have r0d := (b10.frozen (p := ⟨w8.heap.size, 0, none⟩) hzc).trans r0c
              have r1d := (b10.frozen (p := ⟨w8.heap.size, 1, none⟩) hzc).trans r1c
              have hzd : w8.heap.size < w10.heap.size := Nat.lt_of_lt_of_le hzc b10.size
              go_wp2_with fail
              refine (mulFractions_to a b P Q x y _ OKR.out OKP.out g0 P0 HF1.out HF2.out OKN.out).mono ?_
              rintro e w11 ⟨rfl, b11⟩
              have b1011 := bel_trans (bel_alloc w10 _) b11
              have b911 := bel_trans b910 b1011
              have o0 := (b1011.cell (p := ⟨bt, 0, none⟩) hz10).trans n0
              have o1 := (b1011.cell (p := ⟨bt, 1, none⟩) hz10).trans n1
              have o2 := (b1011.frozen (p := ⟨bt, 0, none⟩) hz10).trans n2
              have o3 := (b1011.frozen (p := ⟨bt, 1, none⟩) hz10).trans n3
              have hz11 : bt < w11.heap.size := Nat.lt_of_lt_of_le hz10 b1011.size
              have hl11 : bl < w11.heap.size := by omega
              have hl10 : bl < w10.heap.size := by omega
              have hcl11 := Lib.hid ((((hcl.below b8 hzl).below b89 hl8).below b10 hl9).below b1011 hl10)
              have hwt : w.heap.size ≤ bt := by omega
              have hne : bl ≠ bt := by omega
              have HC11 : Hid (CellsOk w11 bt a b) := ⟨o0, o1, o2, o3⟩
              have hj1 : j + 1 ≤ N := by omega
              have HX1 : Hid (riskN N X ((j + 1 : Nat) : Int) = x) := HX.out
              have HY1 : Hid (riskD N X ((j + 1 : Nat) : Int) = y) := HY.out
              go_wp2_with fail
              go_roundw
              case rel => exact ⟨j + 1, _, hj1, rfl, by go_num, HN.out, step_below b911 hwt _ _ _, step_size hz11 _ _ _, cells_far hcl11.out hl11 hne x y _, by rw [HX1.out, HY1.out]; exact cells_set HC11.out hz11 x y _⟩
              case measure => simp [intOf]; omega
        · have HN : Hid (FndOk N X ln ld false (j + 1)) := HF.out.miss hj (by rw [HA.out, HB.out]; exact hc)
          have HE : Hid (j = N → so = false) := fun e => by subst e; exact HSO.out.symm.trans HN.out.done
          by_cases hjN : j = N
          · obtain rfl : so = false := HE.out hjN
            subst hjN
            go_wp2_with fail
            refine CR'.out.mono ?_
            rintro e w8 ⟨rfl, b8⟩
            have cl8 := hcl.below b8 hzl
            have ct8 := hct.below b8 hzr
            obtain ⟨l0, l1, l2, l3⟩ := cl8
            obtain ⟨t0, t1, t2, t3⟩ := ct8
            have hz8 : bt < w8.heap.size := Nat.lt_of_lt_of_le hzr b8.size
            have hl8 : bl < w8.heap.size := by omega
            go_wp2_with fail
            refine (compareFractions_in a b ln ld _ OKR.out OKL.out).mono ?_
            rintro e w9 ⟨rfl, b9⟩
            have b89 := bel_trans (bel_alloc w8 _) b9
            have b99 := bel_trans (bel_trans hbel b8) b89
            obtain ⟨hcc, hfc⟩ := bcell b9
            have hzc : w8.heap.size < w9.heap.size := by have := b9.size; simp at this; omega
            have q0c := (hcc _ 0 (by simp)).trans (new2 w8 _ _ _).1
            have q1c := (hcc _ 1 (by simp)).trans (new2 w8 _ _ _).2
            have r0c := (hfc _ 0 (by simp)).trans (World.frozen?_alloc_at _ _ _ _ rfl)
            have r1c := (hfc _ 1 (by simp)).trans (World.frozen?_alloc_at _ _ _ _ rfl)
            clear hcc hfc
            have m0 := (b89.cell (p := ⟨bt, 0, none⟩) hz8).trans t0
            have m1 := (b89.cell (p := ⟨bt, 1, none⟩) hz8).trans t1
            have m2 := (b89.frozen (p := ⟨bt, 0, none⟩) hz8).trans t2
            have m3 := (b89.frozen (p := ⟨bt, 1, none⟩) hz8).trans t3
            have hz9 : bt < w9.heap.size := Nat.lt_of_lt_of_le hz8 b89.size
            have hl9 : bl < w9.heap.size := by omega
            go_wp2_with fail
            go_ret
            exact ⟨rfl, b99⟩
          · by_cases hL : (N : Int) - X - j < 0
            · skip
              go_wp2_with fail
              refine CR'.out.mono ?_
              rintro e w8 ⟨rfl, b8⟩
              have cl8 := hcl.below b8 hzl
              have ct8 := hct.below b8 hzr
              obtain ⟨l0, l1, l2, l3⟩ := cl8
              obtain ⟨t0, t1, t2, t3⟩ := ct8
              have hz8 : bt < w8.heap.size := Nat.lt_of_lt_of_le hzr b8.size
              have hl8 : bl < w8.heap.size := by omega
              go_wp2_with fail
              refine (compareFractions_in a b ln ld _ OKR.out OKL.out).mono ?_
              rintro e w9 ⟨rfl, b9⟩
              have b89 := bel_trans (bel_alloc w8 _) b9
              have b99 := bel_trans (bel_trans hbel b8) b89
              obtain ⟨hcc, hfc⟩ := bcell b9
              have hzc : w8.heap.size < w9.heap.size := by have := b9.size; simp at this; omega
              have q0c := (hcc _ 0 (by simp)).trans (new2 w8 _ _ _).1
              have q1c := (hcc _ 1 (by simp)).trans (new2 w8 _ _ _).2
              have r0c := (hfc _ 0 (by simp)).trans (World.frozen?_alloc_at _ _ _ _ rfl)
              have r1c := (hfc _ 1 (by simp)).trans (World.frozen?_alloc_at _ _ _ _ rfl)
              clear hcc hfc
              have m0 := (b89.cell (p := ⟨bt, 0, none⟩) hz8).trans t0
              have m1 := (b89.cell (p := ⟨bt, 1, none⟩) hz8).trans t1
              have m2 := (b89.frozen (p := ⟨bt, 0, none⟩) hz8).trans t2
              have m3 := (b89.frozen (p := ⟨bt, 1, none⟩) hz8).trans t3
              have hz9 : bt < w9.heap.size := Nat.lt_of_lt_of_le hz8 b89.size
              have hl9 : bl < w9.heap.size := by omega
              go_wp2_with fail
              have hk0 : (0 : Int) ≤ (0 : Int) := by omega
              have hk1 : (0 : Int) ≤ 1000000000 := by omega
              obtain ⟨P, hP⟩ : ∃ P, redN (0 : Int) ((N : Int) - j) = P := ⟨_, rfl⟩
              obtain ⟨Q, hQ⟩ : ∃ Q, redD (0 : Int) ((N : Int) - j) = Q := ⟨_, rfl⟩
              have hfall := risk_fall (n := N) (w := X) (k := j) (by omega) (by omega) (by omega) (L := (0 : Int)) (by omega)
              have okp := red_ok (n := (0 : Int)) (d := (N : Int) - j) (by omega) hk1 (by omega) (by omega)
              have P0 := redN_nonneg (n := (0 : Int)) (d := (N : Int) - j) hk0
              have okn := risk_ok (b := N) (x := X) (s := (j : Int) + 1) (by omega) (by omega) (by omega) (by omega) (by omega) (by omega)
              obtain ⟨x, hx⟩ : ∃ x, riskN N X ((j : Int) + 1) = x := ⟨_, rfl⟩
              obtain ⟨y, hy⟩ : ∃ y, riskD N X ((j : Int) + 1) = y := ⟨_, rfl⟩
              rw [hP, hQ] at okp hfall
              rw [hP] at P0
              rw [HA.out, HB.out, hx, hy] at hfall
              rw [hx, hy] at okn
              have HF1 := Lib.hid hfall.1
              have HF2 := Lib.hid hfall.2
              have OKP := Lib.hid okp
              have OKN := Lib.hid okn
              have HX := Lib.hid hx
              have HY := Lib.hid hy
              have HP := Lib.hid hP
              have HQ := Lib.hid hQ
              clear hfall okp okn hx hy hP hQ
              refine (fractionOf_to (0 : Int) ((N : Int) - j) P Q _ hk0 hk1 (by omega) (by omega) HP.out HQ.out).mono ?_
              rintro e w10 ⟨rfl, b10⟩
              have b910 := bel_trans b99 b10
              have n0 := (b10.cell (p := ⟨bt, 0, none⟩) hz9).trans m0
              have n1 := (b10.cell (p := ⟨bt, 1, none⟩) hz9).trans m1
              have n2 := (b10.frozen (p := ⟨bt, 0, none⟩) hz9).trans m2
              have n3 := (b10.frozen (p := ⟨bt, 1, none⟩) hz9).trans m3
              have hz10 : bt < w10.heap.size := Nat.lt_of_lt_of_le hz9 b10.size
              have q0d := (b10.cell (p := ⟨w8.heap.size, 0, none⟩) hzc).trans q0c
              have q1d := (b10.cell (p := ⟨w8.heap.size, 1, none⟩) hzc).trans q1c
              have r0d := (b10.frozen (p := ⟨w8.heap.size, 0, none⟩) hzc).trans r0c
              have r1d := (b10.frozen (p := ⟨w8.heap.size, 1, none⟩) hzc).trans r1c
              have hzd : w8.heap.size < w10.heap.size := Nat.lt_of_lt_of_le hzc b10.size
              go_wp2_with fail
              refine (mulFractions_to a b P Q x y _ OKR.out OKP.out g0 P0 HF1.out HF2.out OKN.out).mono ?_
              rintro e w11 ⟨rfl, b11⟩
              have b1011 := bel_trans (bel_alloc w10 _) b11
              have b911 := bel_trans b910 b1011
              have o0 := (b1011.cell (p := ⟨bt, 0, none⟩) hz10).trans n0
              have o1 := (b1011.cell (p := ⟨bt, 1, none⟩) hz10).trans n1
              have o2 := (b1011.frozen (p := ⟨bt, 0, none⟩) hz10).trans n2
              have o3 := (b1011.frozen (p := ⟨bt, 1, none⟩) hz10).trans n3
              have hz11 : bt < w11.heap.size := Nat.lt_of_lt_of_le hz10 b1011.size
              have hl11 : bl < w11.heap.size := by omega
              have hl10 : bl < w10.heap.size := by omega
              have hcl11 := Lib.hid ((((hcl.below b8 hzl).below b89 hl8).below b10 hl9).below b1011 hl10)
              have hwt : w.heap.size ≤ bt := by omega
              have hne : bl ≠ bt := by omega
              have HC11 : Hid (CellsOk w11 bt a b) := ⟨o0, o1, o2, o3⟩
              have hj1 : j + 1 ≤ N := by omega
              have HX1 : Hid (riskN N X ((j + 1 : Nat) : Int) = x) := HX.out
              have HY1 : Hid (riskD N X ((j + 1 : Nat) : Int) = y) := HY.out
              go_wp2_with fail
              go_roundw
              case rel => exact ⟨j + 1, _, hj1, rfl, by go_num, HN.out, step_below b911 hwt _ _ _, step_size hz11 _ _ _, cells_far hcl11.out hl11 hne x y _, by rw [HX1.out, HY1.out]; exact cells_set HC11.out hz11 x y _⟩
              case measure => simp [intOf]; omega
            · skip
              go_wp2_with fail
              refine CR'.out.mono ?_
              rintro e w8 ⟨rfl, b8⟩
              have cl8 := hcl.below b8 hzl
              have ct8 := hct.below b8 hzr
              obtain ⟨l0, l1, l2, l3⟩ := cl8
              obtain ⟨t0, t1, t2, t3⟩ := ct8
              have hz8 : bt < w8.heap.size := Nat.lt_of_lt_of_le hzr b8.size
              have hl8 : bl < w8.heap.size := by omega
              go_wp2_with fail
              refine (compareFractions_in a b ln ld _ OKR.out OKL.out).mono ?_
              rintro e w9 ⟨rfl, b9⟩
              have b89 := bel_trans (bel_alloc w8 _) b9
              have b99 := bel_trans (bel_trans hbel b8) b89
              obtain ⟨hcc, hfc⟩ := bcell b9
              have hzc : w8.heap.size < w9.heap.size := by have := b9.size; simp at this; omega
              have q0c := (hcc _ 0 (by simp)).trans (new2 w8 _ _ _).1
              have q1c := (hcc _ 1 (by simp)).trans (new2 w8 _ _ _).2
              have r0c := (hfc _ 0 (by simp)).trans (World.frozen?_alloc_at _ _ _ _ rfl)
              have r1c := (hfc _ 1 (by simp)).trans (World.frozen?_alloc_at _ _ _ _ rfl)
              clear hcc hfc
              have m0 := (b89.cell (p := ⟨bt, 0, none⟩) hz8).trans t0
              have m1 := (b89.cell (p := ⟨bt, 1, none⟩) hz8).trans t1
              have m2 := (b89.frozen (p := ⟨bt, 0, none⟩) hz8).trans t2
              have m3 := (b89.frozen (p := ⟨bt, 1, none⟩) hz8).trans t3
              have hz9 : bt < w9.heap.size := Nat.lt_of_lt_of_le hz8 b89.size
              have hl9 : bl < w9.heap.size := by omega
              go_wp2_with fail
              have hk0 : (0 : Int) ≤ ((N : Int) - X - j) := by omega
              have hk1 : ((N : Int) - X - j) ≤ 1000000000 := by omega
              obtain ⟨P, hP⟩ : ∃ P, redN ((N : Int) - X - j) ((N : Int) - j) = P := ⟨_, rfl⟩
              obtain ⟨Q, hQ⟩ : ∃ Q, redD ((N : Int) - X - j) ((N : Int) - j) = Q := ⟨_, rfl⟩
              have hfall := risk_fall (n := N) (w := X) (k := j) (by omega) (by omega) (by omega) (L := ((N : Int) - X - j)) (by omega)
              have okp := red_ok (n := ((N : Int) - X - j)) (d := (N : Int) - j) (by omega) hk1 (by omega) (by omega)
              have P0 := redN_nonneg (n := ((N : Int) - X - j)) (d := (N : Int) - j) hk0
              have okn := risk_ok (b := N) (x := X) (s := (j : Int) + 1) (by omega) (by omega) (by omega) (by omega) (by omega) (by omega)
              obtain ⟨x, hx⟩ : ∃ x, riskN N X ((j : Int) + 1) = x := ⟨_, rfl⟩
              obtain ⟨y, hy⟩ : ∃ y, riskD N X ((j : Int) + 1) = y := ⟨_, rfl⟩
              rw [hP, hQ] at okp hfall
              rw [hP] at P0
              rw [HA.out, HB.out, hx, hy] at hfall
              rw [hx, hy] at okn
              have HF1 := Lib.hid hfall.1
              have HF2 := Lib.hid hfall.2
              have OKP := Lib.hid okp
              have OKN := Lib.hid okn
              have HX := Lib.hid hx
              have HY := Lib.hid hy
              have HP := Lib.hid hP
              have HQ := Lib.hid hQ
              clear hfall okp okn hx hy hP hQ
              refine (fractionOf_to ((N : Int) - X - j) ((N : Int) - j) P Q _ hk0 hk1 (by omega) (by omega) HP.out HQ.out).mono ?_
              rintro e w10 ⟨rfl, b10⟩
              have b910 := bel_trans b99 b10
              have n0 := (b10.cell (p := ⟨bt, 0, none⟩) hz9).trans m0
              have n1 := (b10.cell (p := ⟨bt, 1, none⟩) hz9).trans m1
              have n2 := (b10.frozen (p := ⟨bt, 0, none⟩) hz9).trans m2
              have n3 := (b10.frozen (p := ⟨bt, 1, none⟩) hz9).trans m3
              have hz10 : bt < w10.heap.size := Nat.lt_of_lt_of_le hz9 b10.size
              have q0d := (b10.cell (p := ⟨w8.heap.size, 0, none⟩) hzc).trans q0c
              have q1d := (b10.cell (p := ⟨w8.heap.size, 1, none⟩) hzc).trans q1c
              have r0d := (b10.frozen (p := ⟨w8.heap.size, 0, none⟩) hzc).trans r0c
              have r1d := (b10.frozen (p := ⟨w8.heap.size, 1, none⟩) hzc).trans r1c
              have hzd : w8.heap.size < w10.heap.size := Nat.lt_of_lt_of_le hzc b10.size
              go_wp2_with fail
              refine (mulFractions_to a b P Q x y _ OKR.out OKP.out g0 P0 HF1.out HF2.out OKN.out).mono ?_
              rintro e w11 ⟨rfl, b11⟩
              have b1011 := bel_trans (bel_alloc w10 _) b11
              have b911 := bel_trans b910 b1011
              have o0 := (b1011.cell (p := ⟨bt, 0, none⟩) hz10).trans n0
              have o1 := (b1011.cell (p := ⟨bt, 1, none⟩) hz10).trans n1
              have o2 := (b1011.frozen (p := ⟨bt, 0, none⟩) hz10).trans n2
              have o3 := (b1011.frozen (p := ⟨bt, 1, none⟩) hz10).trans n3
              have hz11 : bt < w11.heap.size := Nat.lt_of_lt_of_le hz10 b1011.size
              have hl11 : bl < w11.heap.size := by omega
              have hl10 : bl < w10.heap.size := by omega
              have hcl11 := Lib.hid ((((hcl.below b8 hzl).below b89 hl8).below b10 hl9).below b1011 hl10)
              have hwt : w.heap.size ≤ bt := by omega
              have hne : bl ≠ bt := by omega
              have HC11 : Hid (CellsOk w11 bt a b) := ⟨o0, o1, o2, o3⟩
              have hj1 : j + 1 ≤ N := by omega
              have HX1 : Hid (riskN N X ((j + 1 : Nat) : Int) = x) := HX.out
              have HY1 : Hid (riskD N X ((j + 1 : Nat) : Int) = y) := HY.out
              go_wp2_with fail
              go_roundw
              case rel => exact ⟨j + 1, _, hj1, rfl, by go_num, HN.out, step_below b911 hwt _ _ _, step_size hz11 _ _ _, cells_far hcl11.out hl11 hne x y _, by rw [HX1.out, HY1.out]; exact cells_set HC11.out hz11 x y _⟩
              case measure => simp [intOf]; omega
      · obtain rfl : so = true := HSO.out.symm.trans (HF.out.1 rfl)
        have HN : Hid (FndOk N X ln ld true (j + 1)) := FndOk.yes HSO.out
        by_cases hc : cmpF a b ln ld ≤ 0
        · skip
          by_cases hjN : j = N
          · subst hjN
            go_wp2_with fail
            refine CR'.out.mono ?_
            rintro e w8 ⟨rfl, b8⟩
            have cl8 := hcl.below b8 hzl
            have ct8 := hct.below b8 hzr
            obtain ⟨l0, l1, l2, l3⟩ := cl8
            obtain ⟨t0, t1, t2, t3⟩ := ct8
            have hz8 : bt < w8.heap.size := Nat.lt_of_lt_of_le hzr b8.size
            have hl8 : bl < w8.heap.size := by omega
            go_wp2_with fail
            refine (compareFractions_in a b ln ld _ OKR.out OKL.out).mono ?_
            rintro e w9 ⟨rfl, b9⟩
            have b89 := bel_trans (bel_alloc w8 _) b9
            have b99 := bel_trans (bel_trans hbel b8) b89
            obtain ⟨hcc, hfc⟩ := bcell b9
            have hzc : w8.heap.size < w9.heap.size := by have := b9.size; simp at this; omega
            have q0c := (hcc _ 0 (by simp)).trans (new2 w8 _ _ _).1
            have q1c := (hcc _ 1 (by simp)).trans (new2 w8 _ _ _).2
            have r0c := (hfc _ 0 (by simp)).trans (World.frozen?_alloc_at _ _ _ _ rfl)
            have r1c := (hfc _ 1 (by simp)).trans (World.frozen?_alloc_at _ _ _ _ rfl)
            clear hcc hfc
            have m0 := (b89.cell (p := ⟨bt, 0, none⟩) hz8).trans t0
            have m1 := (b89.cell (p := ⟨bt, 1, none⟩) hz8).trans t1
            have m2 := (b89.frozen (p := ⟨bt, 0, none⟩) hz8).trans t2
            have m3 := (b89.frozen (p := ⟨bt, 1, none⟩) hz8).trans t3
            have hz9 : bt < w9.heap.size := Nat.lt_of_lt_of_le hz8 b89.size
            have hl9 : bl < w9.heap.size := by omega
            go_wp2_with fail
            go_ret
            exact ⟨rfl, b99⟩
          · by_cases hL : (N : Int) - X - j < 0
            · skip
              go_wp2_with fail
              refine CR'.out.mono ?_
              rintro e w8 ⟨rfl, b8⟩
              have cl8 := hcl.below b8 hzl
              have ct8 := hct.below b8 hzr
              obtain ⟨l0, l1, l2, l3⟩ := cl8
              obtain ⟨t0, t1, t2, t3⟩ := ct8
              have hz8 : bt < w8.heap.size := Nat.lt_of_lt_of_le hzr b8.size
              have hl8 : bl < w8.heap.size := by omega
              go_wp2_with fail
              refine (compareFractions_in a b ln ld _ OKR.out OKL.out).mono ?_
              rintro e w9 ⟨rfl, b9⟩
              have b89 := bel_trans (bel_alloc w8 _) b9
              have b99 := bel_trans (bel_trans hbel b8) b89
              obtain ⟨hcc, hfc⟩ := bcell b9
              have hzc : w8.heap.size < w9.heap.size := by have := b9.size; simp at this; omega
              have q0c := (hcc _ 0 (by simp)).trans (new2 w8 _ _ _).1
              have q1c := (hcc _ 1 (by simp)).trans (new2 w8 _ _ _).2
              have r0c := (hfc _ 0 (by simp)).trans (World.frozen?_alloc_at _ _ _ _ rfl)
              have r1c := (hfc _ 1 (by simp)).trans (World.frozen?_alloc_at _ _ _ _ rfl)
              clear hcc hfc
              have m0 := (b89.cell (p := ⟨bt, 0, none⟩) hz8).trans t0
              have m1 := (b89.cell (p := ⟨bt, 1, none⟩) hz8).trans t1
              have m2 := (b89.frozen (p := ⟨bt, 0, none⟩) hz8).trans t2
              have m3 := (b89.frozen (p := ⟨bt, 1, none⟩) hz8).trans t3
              have hz9 : bt < w9.heap.size := Nat.lt_of_lt_of_le hz8 b89.size
              have hl9 : bl < w9.heap.size := by omega
              go_wp2_with fail
              have hk0 : (0 : Int) ≤ (0 : Int) := by omega
              have hk1 : (0 : Int) ≤ 1000000000 := by omega
              obtain ⟨P, hP⟩ : ∃ P, redN (0 : Int) ((N : Int) - j) = P := ⟨_, rfl⟩
              obtain ⟨Q, hQ⟩ : ∃ Q, redD (0 : Int) ((N : Int) - j) = Q := ⟨_, rfl⟩
              have hfall := risk_fall (n := N) (w := X) (k := j) (by omega) (by omega) (by omega) (L := (0 : Int)) (by omega)
              have okp := red_ok (n := (0 : Int)) (d := (N : Int) - j) (by omega) hk1 (by omega) (by omega)
              have P0 := redN_nonneg (n := (0 : Int)) (d := (N : Int) - j) hk0
              have okn := risk_ok (b := N) (x := X) (s := (j : Int) + 1) (by omega) (by omega) (by omega) (by omega) (by omega) (by omega)
              obtain ⟨x, hx⟩ : ∃ x, riskN N X ((j : Int) + 1) = x := ⟨_, rfl⟩
              obtain ⟨y, hy⟩ : ∃ y, riskD N X ((j : Int) + 1) = y := ⟨_, rfl⟩
              rw [hP, hQ] at okp hfall
              rw [hP] at P0
              rw [HA.out, HB.out, hx, hy] at hfall
              rw [hx, hy] at okn
              have HF1 := Lib.hid hfall.1
              have HF2 := Lib.hid hfall.2
              have OKP := Lib.hid okp
              have OKN := Lib.hid okn
              have HX := Lib.hid hx
              have HY := Lib.hid hy
              have HP := Lib.hid hP
              have HQ := Lib.hid hQ
              clear hfall okp okn hx hy hP hQ
              refine (fractionOf_to (0 : Int) ((N : Int) - j) P Q _ hk0 hk1 (by omega) (by omega) HP.out HQ.out).mono ?_
              rintro e w10 ⟨rfl, b10⟩
              have b910 := bel_trans b99 b10
              have n0 := (b10.cell (p := ⟨bt, 0, none⟩) hz9).trans m0
              have n1 := (b10.cell (p := ⟨bt, 1, none⟩) hz9).trans m1
              have n2 := (b10.frozen (p := ⟨bt, 0, none⟩) hz9).trans m2
              have n3 := (b10.frozen (p := ⟨bt, 1, none⟩) hz9).trans m3
              have hz10 : bt < w10.heap.size := Nat.lt_of_lt_of_le hz9 b10.size
              have q0d := (b10.cell (p := ⟨w8.heap.size, 0, none⟩) hzc).trans q0c
              have q1d := (b10.cell (p := ⟨w8.heap.size, 1, none⟩) hzc).trans q1c
              have r0d := (b10.frozen (p := ⟨w8.heap.size, 0, none⟩) hzc).trans r0c
              have r1d := (b10.frozen (p := ⟨w8.heap.size, 1, none⟩) hzc).trans r1c
              have hzd : w8.heap.size < w10.heap.size := Nat.lt_of_lt_of_le hzc b10.size
              go_wp2_with fail
              refine (mulFractions_to a b P Q x y _ OKR.out OKP.out g0 P0 HF1.out HF2.out OKN.out).mono ?_
              rintro e w11 ⟨rfl, b11⟩
              have b1011 := bel_trans (bel_alloc w10 _) b11
              have b911 := bel_trans b910 b1011
              have o0 := (b1011.cell (p := ⟨bt, 0, none⟩) hz10).trans n0
              have o1 := (b1011.cell (p := ⟨bt, 1, none⟩) hz10).trans n1
              have o2 := (b1011.frozen (p := ⟨bt, 0, none⟩) hz10).trans n2
              have o3 := (b1011.frozen (p := ⟨bt, 1, none⟩) hz10).trans n3
              have hz11 : bt < w11.heap.size := Nat.lt_of_lt_of_le hz10 b1011.size
              have hl11 : bl < w11.heap.size := by omega
              have hl10 : bl < w10.heap.size := by omega
              have hcl11 := Lib.hid ((((hcl.below b8 hzl).below b89 hl8).below b10 hl9).below b1011 hl10)
              have hwt : w.heap.size ≤ bt := by omega
              have hne : bl ≠ bt := by omega
              have HC11 : Hid (CellsOk w11 bt a b) := ⟨o0, o1, o2, o3⟩
              have hj1 : j + 1 ≤ N := by omega
              have HX1 : Hid (riskN N X ((j + 1 : Nat) : Int) = x) := HX.out
              have HY1 : Hid (riskD N X ((j + 1 : Nat) : Int) = y) := HY.out
              go_wp2_with fail
              go_roundw
              case rel => exact ⟨j + 1, _, hj1, rfl, by go_num, HN.out, step_below b911 hwt _ _ _, step_size hz11 _ _ _, cells_far hcl11.out hl11 hne x y _, by rw [HX1.out, HY1.out]; exact cells_set HC11.out hz11 x y _⟩
              case measure => simp [intOf]; omega
            · skip
              go_wp2_with fail
              refine CR'.out.mono ?_
              rintro e w8 ⟨rfl, b8⟩
              have cl8 := hcl.below b8 hzl
              have ct8 := hct.below b8 hzr
              obtain ⟨l0, l1, l2, l3⟩ := cl8
              obtain ⟨t0, t1, t2, t3⟩ := ct8
              have hz8 : bt < w8.heap.size := Nat.lt_of_lt_of_le hzr b8.size
              have hl8 : bl < w8.heap.size := by omega
              go_wp2_with fail
              refine (compareFractions_in a b ln ld _ OKR.out OKL.out).mono ?_
              rintro e w9 ⟨rfl, b9⟩
              have b89 := bel_trans (bel_alloc w8 _) b9
              have b99 := bel_trans (bel_trans hbel b8) b89
              obtain ⟨hcc, hfc⟩ := bcell b9
              have hzc : w8.heap.size < w9.heap.size := by have := b9.size; simp at this; omega
              have q0c := (hcc _ 0 (by simp)).trans (new2 w8 _ _ _).1
              have q1c := (hcc _ 1 (by simp)).trans (new2 w8 _ _ _).2
              have r0c := (hfc _ 0 (by simp)).trans (World.frozen?_alloc_at _ _ _ _ rfl)
              have r1c := (hfc _ 1 (by simp)).trans (World.frozen?_alloc_at _ _ _ _ rfl)
              clear hcc hfc
              have m0 := (b89.cell (p := ⟨bt, 0, none⟩) hz8).trans t0
              have m1 := (b89.cell (p := ⟨bt, 1, none⟩) hz8).trans t1
              have m2 := (b89.frozen (p := ⟨bt, 0, none⟩) hz8).trans t2
              have m3 := (b89.frozen (p := ⟨bt, 1, none⟩) hz8).trans t3
              have hz9 : bt < w9.heap.size := Nat.lt_of_lt_of_le hz8 b89.size
              have hl9 : bl < w9.heap.size := by omega
              go_wp2_with fail
              have hk0 : (0 : Int) ≤ ((N : Int) - X - j) := by omega
              have hk1 : ((N : Int) - X - j) ≤ 1000000000 := by omega
              obtain ⟨P, hP⟩ : ∃ P, redN ((N : Int) - X - j) ((N : Int) - j) = P := ⟨_, rfl⟩
              obtain ⟨Q, hQ⟩ : ∃ Q, redD ((N : Int) - X - j) ((N : Int) - j) = Q := ⟨_, rfl⟩
              have hfall := risk_fall (n := N) (w := X) (k := j) (by omega) (by omega) (by omega) (L := ((N : Int) - X - j)) (by omega)
              have okp := red_ok (n := ((N : Int) - X - j)) (d := (N : Int) - j) (by omega) hk1 (by omega) (by omega)
              have P0 := redN_nonneg (n := ((N : Int) - X - j)) (d := (N : Int) - j) hk0
              have okn := risk_ok (b := N) (x := X) (s := (j : Int) + 1) (by omega) (by omega) (by omega) (by omega) (by omega) (by omega)
              obtain ⟨x, hx⟩ : ∃ x, riskN N X ((j : Int) + 1) = x := ⟨_, rfl⟩
              obtain ⟨y, hy⟩ : ∃ y, riskD N X ((j : Int) + 1) = y := ⟨_, rfl⟩
              rw [hP, hQ] at okp hfall
              rw [hP] at P0
              rw [HA.out, HB.out, hx, hy] at hfall
              rw [hx, hy] at okn
              have HF1 := Lib.hid hfall.1
              have HF2 := Lib.hid hfall.2
              have OKP := Lib.hid okp
              have OKN := Lib.hid okn
              have HX := Lib.hid hx
              have HY := Lib.hid hy
              have HP := Lib.hid hP
              have HQ := Lib.hid hQ
              clear hfall okp okn hx hy hP hQ
              refine (fractionOf_to ((N : Int) - X - j) ((N : Int) - j) P Q _ hk0 hk1 (by omega) (by omega) HP.out HQ.out).mono ?_
              rintro e w10 ⟨rfl, b10⟩
              have b910 := bel_trans b99 b10
              have n0 := (b10.cell (p := ⟨bt, 0, none⟩) hz9).trans m0
              have n1 := (b10.cell (p := ⟨bt, 1, none⟩) hz9).trans m1
              have n2 := (b10.frozen (p := ⟨bt, 0, none⟩) hz9).trans m2
              have n3 := (b10.frozen (p := ⟨bt, 1, none⟩) hz9).trans m3
              have hz10 : bt < w10.heap.size := Nat.lt_of_lt_of_le hz9 b10.size
              have q0d := (b10.cell (p := ⟨w8.heap.size, 0, none⟩) hzc).trans q0c
              have q1d := (b10.cell (p := ⟨w8.heap.size, 1, none⟩) hzc).trans q1c
              have r0d := (b10.frozen (p := ⟨w8.heap.size, 0, none⟩) hzc).trans r0c
              have r1d := (b10.frozen (p := ⟨w8.heap.size, 1, none⟩) hzc).trans r1c
              have hzd : w8.heap.size < w10.heap.size := Nat.lt_of_lt_of_le hzc b10.size
              go_wp2_with fail
              refine (mulFractions_to a b P Q x y _ OKR.out OKP.out g0 P0 HF1.out HF2.out OKN.out).mono ?_
              rintro e w11 ⟨rfl, b11⟩
              have b1011 := bel_trans (bel_alloc w10 _) b11
              have b911 := bel_trans b910 b1011
              have o0 := (b1011.cell (p := ⟨bt, 0, none⟩) hz10).trans n0
              have o1 := (b1011.cell (p := ⟨bt, 1, none⟩) hz10).trans n1
              have o2 := (b1011.frozen (p := ⟨bt, 0, none⟩) hz10).trans n2
              have o3 := (b1011.frozen (p := ⟨bt, 1, none⟩) hz10).trans n3
              have hz11 : bt < w11.heap.size := Nat.lt_of_lt_of_le hz10 b1011.size
              have hl11 : bl < w11.heap.size := by omega
              have hl10 : bl < w10.heap.size := by omega
              have hcl11 := Lib.hid ((((hcl.below b8 hzl).below b89 hl8).below b10 hl9).below b1011 hl10)
              have hwt : w.heap.size ≤ bt := by omega
              have hne : bl ≠ bt := by omega
              have HC11 : Hid (CellsOk w11 bt a b) := ⟨o0, o1, o2, o3⟩
              have hj1 : j + 1 ≤ N := by omega
              have HX1 : Hid (riskN N X ((j + 1 : Nat) : Int) = x) := HX.out
              have HY1 : Hid (riskD N X ((j + 1 : Nat) : Int) = y) := HY.out
              go_wp2_with fail
              go_roundw
              case rel => exact ⟨j + 1, _, hj1, rfl, by go_num, HN.out, step_below b911 hwt _ _ _, step_size hz11 _ _ _, cells_far hcl11.out hl11 hne x y _, by rw [HX1.out, HY1.out]; exact cells_set HC11.out hz11 x y _⟩
              case measure => simp [intOf]; omega
        · skip
          by_cases hjN : j = N
          · subst hjN
            go_wp2_with fail
            refine CR'.out.mono ?_
            rintro e w8 ⟨rfl, b8⟩
            have cl8 := hcl.below b8 hzl
            have ct8 := hct.below b8 hzr
            obtain ⟨l0, l1, l2, l3⟩ := cl8
            obtain ⟨t0, t1, t2, t3⟩ := ct8
            have hz8 : bt < w8.heap.size := Nat.lt_of_lt_of_le hzr b8.size
            have hl8 : bl < w8.heap.size := by omega
            go_wp2_with fail
            refine (compareFractions_in a b ln ld _ OKR.out OKL.out).mono ?_
            rintro e w9 ⟨rfl, b9⟩
            have b89 := bel_trans (bel_alloc w8 _) b9
            have b99 := bel_trans (bel_trans hbel b8) b89
            obtain ⟨hcc, hfc⟩ := bcell b9
            have hzc : w8.heap.size < w9.heap.size := by have := b9.size; simp at this; omega
            have q0c := (hcc _ 0 (by simp)).trans (new2 w8 _ _ _).1
            have q1c := (hcc _ 1 (by simp)).trans (new2 w8 _ _ _).2
            have r0c := (hfc _ 0 (by simp)).trans (World.frozen?_alloc_at _ _ _ _ rfl)
            have r1c := (hfc _ 1 (by simp)).trans (World.frozen?_alloc_at _ _ _ _ rfl)
            clear hcc hfc
            have m0 := (b89.cell (p := ⟨bt, 0, none⟩) hz8).trans t0
            have m1 := (b89.cell (p := ⟨bt, 1, none⟩) hz8).trans t1
            have m2 := (b89.frozen (p := ⟨bt, 0, none⟩) hz8).trans t2
            have m3 := (b89.frozen (p := ⟨bt, 1, none⟩) hz8).trans t3
            have hz9 : bt < w9.heap.size := Nat.lt_of_lt_of_le hz8 b89.size
            have hl9 : bl < w9.heap.size := by omega
            go_wp2_with fail
            go_ret
            exact ⟨rfl, b99⟩
          · by_cases hL : (N : Int) - X - j < 0
            · skip
              go_wp2_with fail
              refine CR'.out.mono ?_
              rintro e w8 ⟨rfl, b8⟩
              have cl8 := hcl.below b8 hzl
              have ct8 := hct.below b8 hzr
              obtain ⟨l0, l1, l2, l3⟩ := cl8
              obtain ⟨t0, t1, t2, t3⟩ := ct8
              have hz8 : bt < w8.heap.size := Nat.lt_of_lt_of_le hzr b8.size
              have hl8 : bl < w8.heap.size := by omega
              go_wp2_with fail
              refine (compareFractions_in a b ln ld _ OKR.out OKL.out).mono ?_
              rintro e w9 ⟨rfl, b9⟩
              have b89 := bel_trans (bel_alloc w8 _) b9
              have b99 := bel_trans (bel_trans hbel b8) b89
              obtain ⟨hcc, hfc⟩ := bcell b9
              have hzc : w8.heap.size < w9.heap.size := by have := b9.size; simp at this; omega
              have q0c := (hcc _ 0 (by simp)).trans (new2 w8 _ _ _).1
              have q1c := (hcc _ 1 (by simp)).trans (new2 w8 _ _ _).2
              have r0c := (hfc _ 0 (by simp)).trans (World.frozen?_alloc_at _ _ _ _ rfl)
              have r1c := (hfc _ 1 (by simp)).trans (World.frozen?_alloc_at _ _ _ _ rfl)
              clear hcc hfc
              have m0 := (b89.cell (p := ⟨bt, 0, none⟩) hz8).trans t0
              have m1 := (b89.cell (p := ⟨bt, 1, none⟩) hz8).trans t1
              have m2 := (b89.frozen (p := ⟨bt, 0, none⟩) hz8).trans t2
              have m3 := (b89.frozen (p := ⟨bt, 1, none⟩) hz8).trans t3
              have hz9 : bt < w9.heap.size := Nat.lt_of_lt_of_le hz8 b89.size
              have hl9 : bl < w9.heap.size := by omega
              go_wp2_with fail
              have hk0 : (0 : Int) ≤ (0 : Int) := by omega
              have hk1 : (0 : Int) ≤ 1000000000 := by omega
              obtain ⟨P, hP⟩ : ∃ P, redN (0 : Int) ((N : Int) - j) = P := ⟨_, rfl⟩
              obtain ⟨Q, hQ⟩ : ∃ Q, redD (0 : Int) ((N : Int) - j) = Q := ⟨_, rfl⟩
              have hfall := risk_fall (n := N) (w := X) (k := j) (by omega) (by omega) (by omega) (L := (0 : Int)) (by omega)
              have okp := red_ok (n := (0 : Int)) (d := (N : Int) - j) (by omega) hk1 (by omega) (by omega)
              have P0 := redN_nonneg (n := (0 : Int)) (d := (N : Int) - j) hk0
              have okn := risk_ok (b := N) (x := X) (s := (j : Int) + 1) (by omega) (by omega) (by omega) (by omega) (by omega) (by omega)
              obtain ⟨x, hx⟩ : ∃ x, riskN N X ((j : Int) + 1) = x := ⟨_, rfl⟩
              obtain ⟨y, hy⟩ : ∃ y, riskD N X ((j : Int) + 1) = y := ⟨_, rfl⟩
              rw [hP, hQ] at okp hfall
              rw [hP] at P0
              rw [HA.out, HB.out, hx, hy] at hfall
              rw [hx, hy] at okn
              have HF1 := Lib.hid hfall.1
              have HF2 := Lib.hid hfall.2
              have OKP := Lib.hid okp
              have OKN := Lib.hid okn
              have HX := Lib.hid hx
              have HY := Lib.hid hy
              have HP := Lib.hid hP
              have HQ := Lib.hid hQ
              clear hfall okp okn hx hy hP hQ
              refine (fractionOf_to (0 : Int) ((N : Int) - j) P Q _ hk0 hk1 (by omega) (by omega) HP.out HQ.out).mono ?_
              rintro e w10 ⟨rfl, b10⟩
              have b910 := bel_trans b99 b10
              have n0 := (b10.cell (p := ⟨bt, 0, none⟩) hz9).trans m0
              have n1 := (b10.cell (p := ⟨bt, 1, none⟩) hz9).trans m1
              have n2 := (b10.frozen (p := ⟨bt, 0, none⟩) hz9).trans m2
              have n3 := (b10.frozen (p := ⟨bt, 1, none⟩) hz9).trans m3
              have hz10 : bt < w10.heap.size := Nat.lt_of_lt_of_le hz9 b10.size
              have q0d := (b10.cell (p := ⟨w8.heap.size, 0, none⟩) hzc).trans q0c
              have q1d := (b10.cell (p := ⟨w8.heap.size, 1, none⟩) hzc).trans q1c
              have r0d := (b10.frozen (p := ⟨w8.heap.size, 0, none⟩) hzc).trans r0c
              have r1d := (b10.frozen (p := ⟨w8.heap.size, 1, none⟩) hzc).trans r1c
              have hzd : w8.heap.size < w10.heap.size := Nat.lt_of_lt_of_le hzc b10.size
              go_wp2_with fail
              refine (mulFractions_to a b P Q x y _ OKR.out OKP.out g0 P0 HF1.out HF2.out OKN.out).mono ?_
              rintro e w11 ⟨rfl, b11⟩
              have b1011 := bel_trans (bel_alloc w10 _) b11
              have b911 := bel_trans b910 b1011
              have o0 := (b1011.cell (p := ⟨bt, 0, none⟩) hz10).trans n0
              have o1 := (b1011.cell (p := ⟨bt, 1, none⟩) hz10).trans n1
              have o2 := (b1011.frozen (p := ⟨bt, 0, none⟩) hz10).trans n2
              have o3 := (b1011.frozen (p := ⟨bt, 1, none⟩) hz10).trans n3
              have hz11 : bt < w11.heap.size := Nat.lt_of_lt_of_le hz10 b1011.size
              have hl11 : bl < w11.heap.size := by omega
              have hl10 : bl < w10.heap.size := by omega
              have hcl11 := Lib.hid ((((hcl.below b8 hzl).below b89 hl8).below b10 hl9).below b1011 hl10)
              have hwt : w.heap.size ≤ bt := by omega
              have hne : bl ≠ bt := by omega
              have HC11 : Hid (CellsOk w11 bt a b) := ⟨o0, o1, o2, o3⟩
              have hj1 : j + 1 ≤ N := by omega
              have HX1 : Hid (riskN N X ((j + 1 : Nat) : Int) = x) := HX.out
              have HY1 : Hid (riskD N X ((j + 1 : Nat) : Int) = y) := HY.out
              go_wp2_with fail
              go_roundw
              case rel => exact ⟨j + 1, _, hj1, rfl, by go_num, HN.out, step_below b911 hwt _ _ _, step_size hz11 _ _ _, cells_far hcl11.out hl11 hne x y _, by rw [HX1.out, HY1.out]; exact cells_set HC11.out hz11 x y _⟩
              case measure => simp [intOf]; omega
            · skip
              go_wp2_with fail
              refine CR'.out.mono ?_
              rintro e w8 ⟨rfl, b8⟩
              have cl8 := hcl.below b8 hzl
              have ct8 := hct.below b8 hzr
              obtain ⟨l0, l1, l2, l3⟩ := cl8
              obtain ⟨t0, t1, t2, t3⟩ := ct8
              have hz8 : bt < w8.heap.size := Nat.lt_of_lt_of_le hzr b8.size
              have hl8 : bl < w8.heap.size := by omega
              go_wp2_with fail
              refine (compareFractions_in a b ln ld _ OKR.out OKL.out).mono ?_
              rintro e w9 ⟨rfl, b9⟩
              have b89 := bel_trans (bel_alloc w8 _) b9
              have b99 := bel_trans (bel_trans hbel b8) b89
              obtain ⟨hcc, hfc⟩ := bcell b9
              have hzc : w8.heap.size < w9.heap.size := by have := b9.size; simp at this; omega
              have q0c := (hcc _ 0 (by simp)).trans (new2 w8 _ _ _).1
              have q1c := (hcc _ 1 (by simp)).trans (new2 w8 _ _ _).2
              have r0c := (hfc _ 0 (by simp)).trans (World.frozen?_alloc_at _ _ _ _ rfl)
              have r1c := (hfc _ 1 (by simp)).trans (World.frozen?_alloc_at _ _ _ _ rfl)
              clear hcc hfc
              have m0 := (b89.cell (p := ⟨bt, 0, none⟩) hz8).trans t0
              have m1 := (b89.cell (p := ⟨bt, 1, none⟩) hz8).trans t1
              have m2 := (b89.frozen (p := ⟨bt, 0, none⟩) hz8).trans t2
              have m3 := (b89.frozen (p := ⟨bt, 1, none⟩) hz8).trans t3
              have hz9 : bt < w9.heap.size := Nat.lt_of_lt_of_le hz8 b89.size
              have hl9 : bl < w9.heap.size := by omega
              go_wp2_with fail
              have hk0 : (0 : Int) ≤ ((N : Int) - X - j) := by omega
              have hk1 : ((N : Int) - X - j) ≤ 1000000000 := by omega
              obtain ⟨P, hP⟩ : ∃ P, redN ((N : Int) - X - j) ((N : Int) - j) = P := ⟨_, rfl⟩
              obtain ⟨Q, hQ⟩ : ∃ Q, redD ((N : Int) - X - j) ((N : Int) - j) = Q := ⟨_, rfl⟩
              have hfall := risk_fall (n := N) (w := X) (k := j) (by omega) (by omega) (by omega) (L := ((N : Int) - X - j)) (by omega)
              have okp := red_ok (n := ((N : Int) - X - j)) (d := (N : Int) - j) (by omega) hk1 (by omega) (by omega)
              have P0 := redN_nonneg (n := ((N : Int) - X - j)) (d := (N : Int) - j) hk0
              have okn := risk_ok (b := N) (x := X) (s := (j : Int) + 1) (by omega) (by omega) (by omega) (by omega) (by omega) (by omega)
              obtain ⟨x, hx⟩ : ∃ x, riskN N X ((j : Int) + 1) = x := ⟨_, rfl⟩
              obtain ⟨y, hy⟩ : ∃ y, riskD N X ((j : Int) + 1) = y := ⟨_, rfl⟩
              rw [hP, hQ] at okp hfall
              rw [hP] at P0
              rw [HA.out, HB.out, hx, hy] at hfall
              rw [hx, hy] at okn
              have HF1 := Lib.hid hfall.1
              have HF2 := Lib.hid hfall.2
              have OKP := Lib.hid okp
              have OKN := Lib.hid okn
              have HX := Lib.hid hx
              have HY := Lib.hid hy
              have HP := Lib.hid hP
              have HQ := Lib.hid hQ
              clear hfall okp okn hx hy hP hQ
              refine (fractionOf_to ((N : Int) - X - j) ((N : Int) - j) P Q _ hk0 hk1 (by omega) (by omega) HP.out HQ.out).mono ?_
              rintro e w10 ⟨rfl, b10⟩
              have b910 := bel_trans b99 b10
              have n0 := (b10.cell (p := ⟨bt, 0, none⟩) hz9).trans m0
              have n1 := (b10.cell (p := ⟨bt, 1, none⟩) hz9).trans m1
              have n2 := (b10.frozen (p := ⟨bt, 0, none⟩) hz9).trans m2
              have n3 := (b10.frozen (p := ⟨bt, 1, none⟩) hz9).trans m3
              have hz10 : bt < w10.heap.size := Nat.lt_of_lt_of_le hz9 b10.size
              have q0d := (b10.cell (p := ⟨w8.heap.size, 0, none⟩) hzc).trans q0c
              have q1d := (b10.cell (p := ⟨w8.heap.size, 1, none⟩) hzc).trans q1c
              have r0d := (b10.frozen (p := ⟨w8.heap.size, 0, none⟩) hzc).trans r0c
              have r1d := (b10.frozen (p := ⟨w8.heap.size, 1, none⟩) hzc).trans r1c
              have hzd : w8.heap.size < w10.heap.size := Nat.lt_of_lt_of_le hzc b10.size
              go_wp2_with fail
              refine (mulFractions_to a b P Q x y _ OKR.out OKP.out g0 P0 HF1.out HF2.out OKN.out).mono ?_
              rintro e w11 ⟨rfl, b11⟩
              have b1011 := bel_trans (bel_alloc w10 _) b11
              have b911 := bel_trans b910 b1011
              have o0 := (b1011.cell (p := ⟨bt, 0, none⟩) hz10).trans n0
              have o1 := (b1011.cell (p := ⟨bt, 1, none⟩) hz10).trans n1
              have o2 := (b1011.frozen (p := ⟨bt, 0, none⟩) hz10).trans n2
              have o3 := (b1011.frozen (p := ⟨bt, 1, none⟩) hz10).trans n3
              have hz11 : bt < w11.heap.size := Nat.lt_of_lt_of_le hz10 b1011.size
              have hl11 : bl < w11.heap.size := by omega
              have hl10 : bl < w10.heap.size := by omega
              have hcl11 := Lib.hid ((((hcl.below b8 hzl).below b89 hl8).below b10 hl9).below b1011 hl10)
              have hwt : w.heap.size ≤ bt := by omega
              have hne : bl ≠ bt := by omega
              have HC11 : Hid (CellsOk w11 bt a b) := ⟨o0, o1, o2, o3⟩
              have hj1 : j + 1 ≤ N := by omega
              have HX1 : Hid (riskN N X ((j + 1 : Nat) : Int) = x) := HX.out
              have HY1 : Hid (riskD N X ((j + 1 : Nat) : Int) = y) := HY.out
              go_wp2_with fail
              go_roundw
              case rel => exact ⟨j + 1, _, hj1, rfl, by go_num, HN.out, step_below b911 hwt _ _ _, step_size hz11 _ _ _, cells_far hcl11.out hl11 hne x y _, by rw [HX1.out, HY1.out]; exact cells_set HC11.out hz11 x y _⟩
              case measure => simp [intOf]; omega
end Go.Proofs.Ytlehiadlofncfaa
