/- Contracts of RiskOf and of what makes fractions; the walk of its law. -/
import Derived.Test.YtfanjnoaifhnnaaChoose
namespace Go.Proofs.Ytfanjnoaifhnnaa
set_option linter.unusedVariables false
open Go.RowKit

theorem redN_nonneg {n d : Int} (h : 0 ≤ n) : 0 ≤ redN n d := by
  unfold redN; exact Int.tdiv_nonneg h (gcdI_nonneg _ _)
theorem red_bd {n d b : Int} (h : -b ≤ n) (h' : n ≤ b) : -b ≤ redN n d ∧ redN n d ≤ b := tdiv_bd h h'
theorem redD_bd {n d b : Int} (h : 1 ≤ d) (h' : d ≤ b) : 1 ≤ redD n d ∧ redD n d ≤ b := by
  have g0 : 1 ≤ gcdI (absI n) d := gcdI_bd (.inr (by omega))
  have g1 := gcdI_le (a := absI n) (show 0 < d by omega)
  have h2 := tdiv_bd (n := d) (g := gcdI (absI n) d) (b := b) (by omega) h'
  refine ⟨?_, h2.2⟩
  unfold redD
  rw [Int.tdiv_eq_ediv_of_nonneg (by omega)]
  have := Int.le_ediv_of_mul_le (a := 1) (b := d) (c := gcdI (absI n) d) (by omega) (by omega)
  exact this
theorem absI_toNat (n : Int) : (absI n).toNat = n.natAbs := by unfold absI; split <;> omega
theorem red_coprime {n d : Int} (h : 1 ≤ d) : gcdI (absI (redN n d)) (redD n d) = 1 := by
  have e : gcdI (absI n) d = (Nat.gcd n.natAbs d.toNat : Nat) := by unfold gcdI; rw [absI_toNat]
  have hpos : 0 < Nat.gcd n.natAbs d.toNat := Nat.gcd_pos_of_pos_right _ (by omega)
  have e1 : (redN n d).natAbs = n.natAbs / Nat.gcd n.natAbs d.toNat := by
    unfold redN; rw [e, Int.natAbs_tdiv, Int.natAbs_natCast]; rfl
  have e2 : (redD n d).toNat = d.toNat / Nat.gcd n.natAbs d.toNat := by
    unfold redD; rw [e, Int.tdiv_eq_ediv_of_nonneg (by omega)]
    obtain ⟨x, rfl⟩ := Int.eq_ofNat_of_zero_le (show 0 ≤ d by omega)
    rw [Int.toNat_natCast, ← Int.natCast_ediv, Int.toNat_natCast]
  have : gcdI (absI (redN n d)) (redD n d) = (Nat.gcd (redN n d).natAbs (redD n d).toNat : Nat) := by unfold gcdI; rw [absI_toNat]
  rw [this, e1, e2, Nat.gcd_div (Nat.gcd_dvd_left _ _) (Nat.gcd_dvd_right _ _), Nat.div_self hpos]
  rfl
theorem red_ok {n d : Int} (h0 : -1000000000 ≤ n) (h1 : n ≤ 1000000000) (h2 : 1 ≤ d) (h3 : d ≤ 1000000000) : okF (redN n d) (redD n d) = true := by
  have a := red_bd (d := d) h0 h1
  have b := redD_bd (n := n) h2 h3
  simp [okF, inR_true.2 b, inR_true.2 a, red_coprime h2]

/-- What was there before a call reads behind it as before. -/
theorem bcell {W w1 : World} (hb : Below W.heap.size W w1) : (∀ b o, b < W.heap.size → w1.cell? ⟨b, o, none⟩ = W.cell? ⟨b, o, none⟩) ∧ (∀ b o, b < W.heap.size → w1.frozen? ⟨b, o, none⟩ = W.frozen? ⟨b, o, none⟩) :=
  ⟨fun b o h => hb.cell (p := ⟨b, o, none⟩) h, fun b o h => hb.frozen (p := ⟨b, o, none⟩) h⟩
/-- A fraction if it is valid. -/
def tN (n d : Int) : Int := if okF n d then n else 0
def tD (n d : Int) : Int := if okF n d then d else 0
theorem told_no {n d : Int} (h : okF n d = false) : tN n d = 0 ∧ tD n d = 0 := by simp [tN, tD, h]
theorem told_yes {n d : Int} (h : okF n d = true) : tN n d = n ∧ tD n d = d := by simp [tN, tD, h]
/-- A fraction and whether it is one. -/
def GivesF (n d : Int) (b : Bool) (w : World) (e : Ending) (w' : World) : Prop :=
  e = .returned (.tuple #[.agg #[.int .i64 n, .int .i64 d], .bool b]) ∧ Below w.heap.size w w'
theorem bel2 {w w1 : World} {o1 o2 : Obj} (hb : Below ((w.alloc o1).alloc o2).heap.size ((w.alloc o1).alloc o2) w1) (a b : Value) : Below w.heap.size w ((w1.setCell ⟨w.heap.size + 1, 0, none⟩ a).setCell ⟨w.heap.size + 1, 1, none⟩ b) :=
  ((bel_trans (bel_trans (bel_alloc w o1) (bel_alloc _ o2)) hb).setCell (by simp) a).setCell (by simp) b
theorem new2 (w : World) (a b : Value) (t : TypeId) : (w.alloc (.cells #[a, b] t)).cell? ⟨w.heap.size, 0, none⟩ = some a ∧ (w.alloc (.cells #[a, b] t)).cell? ⟨w.heap.size, 1, none⟩ = some b := by
  refine ⟨?_, ?_⟩ <;> rw [World.cell?_alloc_at _ _ _ _ rfl] <;> rfl
theorem old2 (w : World) (a b : Value) (t : TypeId) (o : Obj) : ((w.alloc (.cells #[a, b] t)).alloc o).cell? ⟨w.heap.size, 0, none⟩ = some a ∧ ((w.alloc (.cells #[a, b] t)).alloc o).cell? ⟨w.heap.size, 1, none⟩ = some b := by
  refine ⟨?_, ?_⟩ <;> rw [World.cell?_alloc_past _ _ _ (by simp), World.cell?_alloc_at _ _ _ _ rfl] <;> rfl
theorem bel_set2 {w w1 : World} {g : Nat} (hb : Below w.heap.size w w1) (hg : w.heap.size ≤ g) (a b : Value) : Below w.heap.size w ((w1.setCell ⟨g, 0, none⟩ a).setCell ⟨g, 1, none⟩ b) :=
  (hb.setCell hg a).setCell hg b
theorem told_any (n d : Int) (w : World) :
    Calls Try.prog 74 #[.agg #[.int .i64 n, .int .i64 d]] w (GivesF (tN n d) (tD n d) (okF n d) w) := by
  cases hv : okF n d
  · have HV := Lib.hid hv
    have R := Lib.hid (told_no hv)
    clear hv
    go_enter Try.func74, Try.ntmps74
    go_wp2_with fail
    refine (validFraction_any n d _).mono ?_
    rintro e w1 ⟨rfl, hb⟩
    rw [HV.out]
    obtain ⟨hc, hf⟩ := bcell hb
    have hz : w.heap.size + 1 < w1.heap.size := by have := hb.size; simp at this; omega
    go_wp2_with fail
    exact bodyPost_ret (v := .tuple #[.agg #[.int .i64 0, .int .i64 0], .bool false]) (by simp [results, Try.results74, go_sem, hc]) rfl ⟨by rw [R.out.1, R.out.2], bel2 hb _ _⟩
  · have HV := Lib.hid hv
    have R := Lib.hid (told_yes hv)
    clear hv
    go_enter Try.func74, Try.ntmps74
    go_wp2_with fail
    refine (validFraction_any n d _).mono ?_
    rintro e w1 ⟨rfl, hb⟩
    rw [HV.out]
    obtain ⟨hc, hf⟩ := bcell hb
    have hz : w.heap.size + 1 < w1.heap.size := by have := hb.size; simp at this; omega
    go_wp2_with fail
    exact bodyPost_ret (v := .tuple #[.agg #[.int .i64 n, .int .i64 d], .bool true]) (by simp [results, Try.results74, go_sem, hc]) rfl ⟨by rw [R.out.1, R.out.2], bel2 hb _ _⟩
theorem l01Make_pos (n d : Int) (w : World) (h0 : -9223372036854775807 ≤ n) (h1 : n ≤ 9223372036854775807) (h2 : 1 ≤ d) (h3 : d ≤ 9223372036854775807) :
    Calls Try.prog 124 #[.int .i64 n, .int .i64 d] w (GivesF (tN (redN n d) (redD n d)) (tD (redN n d) (redD n d)) (okF (redN n d) (redD n d)) w) := by
  have a0 := absI_lo n
  have a1 := absI_hi h0 h1
  have g0 : 1 ≤ gcdI (absI n) d := gcdI_bd (.inr (by omega))
  have g1 := gcdI_le (a := absI n) (show 0 < d by omega)
  have q1 := tdiv_bd (g := gcdI (absI n) d) h0 h1
  have q2 := tdiv_bd (n := d) (g := gcdI (absI n) d) (b := 9223372036854775807) (by omega) h3
  have W1 : IntKind.i64.wrap (n.tdiv (gcdI (absI n) d)) = n.tdiv (gcdI (absI n) d) := IntWalk.i64_in _ (by omega)
  have W2 : IntKind.i64.wrap (d.tdiv (gcdI (absI n) d)) = d.tdiv (gcdI (absI n) d) := IntWalk.i64_in _ (by omega)
  cases hv : okF (redN n d) (redD n d)
  · have HV := Lib.hid hv
    have R := Lib.hid (told_no hv)
    clear hv
    go_enter Try.func124, Try.ntmps124
    go_wp2_with fail
    refine (l01Abs_any _ _ h0 h1).mono ?_
    rintro e w1 ⟨rfl, rfl⟩
    go_wp2_with fail
    refine (l01Gcd_any _ _ _ a0 a1 (by omega) h3).mono ?_
    rintro e w1 ⟨rfl, rfl⟩
    go_wp2_with fail
    go_region
    all_goals (go_wp2_with fail)
    refine (l01Ok_any (redN n d) (redD n d) _).mono ?_
    rintro e w1 ⟨rfl, hb⟩
    rw [HV.out]
    have hb2 := bel_trans ((bel_trans (bel_alloc w _) (bel_alloc _ _)).drew) hb
    obtain ⟨hc, hf⟩ := bcell hb
    have hz : w.heap.size + 1 < w1.heap.size := by have := hb.size; simp at this; omega
    have q0 : w1.cell? ⟨w.heap.size, 0, none⟩ = some (.int .i64 0) := (hc _ _ (by simp; omega)).trans (old2 w _ _ _ _).1
    have q1 : w1.cell? ⟨w.heap.size, 1, none⟩ = some (.int .i64 0) := (hc _ _ (by simp; omega)).trans (old2 w _ _ _ _).2
    go_wp2_with fail
    exact bodyPost_ret (v := .tuple #[.agg #[.int .i64 0, .int .i64 0], .bool false]) (by simp [results, Try.results124, go_sem, q0, q1]) rfl ⟨by rw [R.out.1, R.out.2], bel_set2 hb2 (Nat.le_refl _) _ _⟩
  · have HV := Lib.hid hv
    have R := Lib.hid (told_yes hv)
    clear hv
    go_enter Try.func124, Try.ntmps124
    go_wp2_with fail
    refine (l01Abs_any _ _ h0 h1).mono ?_
    rintro e w1 ⟨rfl, rfl⟩
    go_wp2_with fail
    refine (l01Gcd_any _ _ _ a0 a1 (by omega) h3).mono ?_
    rintro e w1 ⟨rfl, rfl⟩
    go_wp2_with fail
    go_region
    all_goals (go_wp2_with fail)
    refine (l01Ok_any (redN n d) (redD n d) _).mono ?_
    rintro e w1 ⟨rfl, hb⟩
    rw [HV.out]
    have hb2 := bel_trans ((bel_trans (bel_alloc w _) (bel_alloc _ _)).drew) hb
    obtain ⟨hc, hf⟩ := bcell hb
    have hz : w.heap.size + 1 < w1.heap.size := by have := hb.size; simp at this; omega
    have q0 : w1.cell? ⟨w.heap.size, 0, none⟩ = some (.int .i64 0) := (hc _ _ (by simp; omega)).trans (old2 w _ _ _ _).1
    have q1 : w1.cell? ⟨w.heap.size, 1, none⟩ = some (.int .i64 0) := (hc _ _ (by simp; omega)).trans (old2 w _ _ _ _).2
    go_wp2_with fail
    exact bodyPost_ret (v := .tuple #[.agg #[.int .i64 (redN n d), .int .i64 (redD n d)], .bool true]) (by simp [results, Try.results124, go_sem, q0, q1, redN, redD]) rfl ⟨by rw [R.out.1, R.out.2], bel_set2 hb2 (Nat.le_refl _) _ _⟩
theorem l01Make_ok (n d : Int) (w : World) (h0 : 0 ≤ n) (h1 : n ≤ 1000000000) (h2 : 1 ≤ d) (h3 : d ≤ 1000000000) :
    Calls Try.prog 124 #[.int .i64 n, .int .i64 d] w (GivesF (redN n d) (redD n d) true w) := by
  have h := red_ok (n := n) (d := d) (by omega) h1 h2 h3
  have := l01Make_pos n d w (by omega) (by omega) h2 (by omega)
  rwa [(told_yes h).1, (told_yes h).2, h] at this
/-- The risk of a sample: its fraction. -/
def riskB (b x s : Int) : Bool := inR b 0 30 && inR x 0 b && inR s 0 b
def riskN (b x s : Int) : Int := redN (chsI (b - x) s) (chsI b s)
def riskD (b x s : Int) : Int := redD (chsI (b - x) s) (chsI b s)
def riskNV (b x s : Int) : Int := if riskB b x s then riskN b x s else 0
def riskDV (b x s : Int) : Int := if riskB b x s then riskD b x s else 0
theorem risk_no {b x s : Int} (h : riskB b x s = false) : riskB b x s = false ∧ riskNV b x s = 0 ∧ riskDV b x s = 0 := by simp [riskNV, riskDV, h]
theorem risk_yes {b x s : Int} (h : riskB b x s = true) : riskB b x s = true ∧ riskNV b x s = riskN b x s ∧ riskDV b x s = riskD b x s := by simp [riskNV, riskDV, h]
theorem risk_in {b x s : Int} (h1 : inR b 0 30 = true) (h2 : inR x 0 b = true) (h3 : inR s 0 b = true) : riskB b x s = true := by simp [riskB, h1, h2, h3]
theorem risk_out1 {b x s : Int} (h1 : inR b 0 30 = false) : riskB b x s = false := by simp [riskB, h1]
theorem risk_out2 {b x s : Int} (h1 : inR x 0 b = false) : riskB b x s = false := by simp [riskB, h1]
theorem risk_out3 {b x s : Int} (h1 : inR s 0 b = false) : riskB b x s = false := by simp [riskB, h1]
/-- What bounds the two counts. -/
theorem risk_bd {b x s : Int} (h1 : 0 ≤ b) (h2 : b ≤ 30) (h3 : 0 ≤ x) (h4 : x ≤ b) (h5 : 0 ≤ s) (h6 : s ≤ b) :
    0 ≤ chsI (b - x) s ∧ chsI (b - x) s ≤ 155117520 ∧ 1 ≤ chsI b s ∧ chsI b s ≤ 155117520 :=
  ⟨(chsI_bd (by omega)).1, (chsI_bd (by omega)).2, chsI_pos (by omega) h6 h5, (chsI_bd (by omega)).2⟩
theorem risk_ok {b x s : Int} (h1 : 0 ≤ b) (h2 : b ≤ 30) (h3 : 0 ≤ x) (h4 : x ≤ b) (h5 : 0 ≤ s) (h6 : s ≤ b) : okF (riskN b x s) (riskD b x s) = true := by
  obtain ⟨a1, a2, a3, a4⟩ := risk_bd h1 h2 h3 h4 h5 h6
  exact red_ok (by omega) (by omega) a3 (by omega)
theorem l09Risk_any (b x s : Int) (w : World) (h1 : 0 ≤ b) (h2 : b ≤ 30) (h3 : 0 ≤ x) (h4 : x ≤ b) (h5 : 0 ≤ s) (h6 : s ≤ b) :
    Calls Try.prog 107 #[.int .i64 b, .int .i64 x, .int .i64 s] w fun e w' => e = .returned (.agg #[.int .i64 (riskN b x s), .int .i64 (riskD b x s)]) ∧ Below w.heap.size w w' := by
  obtain ⟨a1, a2, a3, a4⟩ := risk_bd h1 h2 h3 h4 h5 h6
  go_enter Try.func107, Try.ntmps107
  go_wp2_with (go_at_call 125; refine (l09Choose_any _ _ _ (by omega) (by omega) (by omega) (by omega)).mono ?_; rintro e w' ⟨rfl, rfl⟩)
  refine (l01Make_ok (chsI (b - x) s) (chsI b s) _ a1 (by omega) a3 (by omega)).mono ?_
  rintro e w1 ⟨rfl, hb⟩
  have hb2 := bel_trans (bel_alloc w _) hb
  obtain ⟨hc, hf⟩ := bcell hb
  have hz : w.heap.size < w1.heap.size := by have := hb.size; simp at this; omega
  have q0 : w1.cell? ⟨w.heap.size, 0, none⟩ = some (.int .i64 0) := (hc _ _ (by simp)).trans (new2 w _ _ _).1
  have q1 : w1.cell? ⟨w.heap.size, 1, none⟩ = some (.int .i64 0) := (hc _ _ (by simp)).trans (new2 w _ _ _).2
  go_wp2_with fail
  exact bodyPost_ret (v := .agg #[.int .i64 (riskN b x s), .int .i64 (riskD b x s)]) (by simp [results, Try.results107, go_sem, q0, q1, hz, riskN, riskD]) rfl ⟨rfl, bel_trans (bel_set2 hb2 (Nat.le_refl _) _ _) (bel_alloc _ _)⟩
theorem implRiskOf_yes (b x s : Int) (w : World) (h1 : inR b 0 30 = true) (h2 : inR x 0 b = true) (h3 : inR s 0 b = true) :
    Calls Try.prog 41 #[.int .i64 b, .int .i64 x, .int .i64 s] w (GivesF (riskNV b x s) (riskDV b x s) (riskB b x s) w) := by
  have R := Lib.hid (risk_yes (risk_in h1 h2 h3))
  have b1 := inR_true.1 h1
  have b2 := inR_true.1 h2
  have b3 := inR_true.1 h3
  have H1 := Lib.hid h1
  have H2 := Lib.hid h2
  have H3 := Lib.hid h3
  obtain ⟨a1, a2, a3, a4⟩ := risk_bd b1.1 b1.2 b2.1 b2.2 b3.1 b3.2
  clear h1 h2 h3
  go_enter Try.func41, Try.ntmps41
  go_wp2_with fail
  refine (within_val H1.out _).mono ?_
  rintro e w' ⟨rfl, rfl⟩
  go_wp2_with fail
  refine (within_val H2.out _).mono ?_
  rintro e w' ⟨rfl, rfl⟩
  go_wp2_with fail
  refine (within_val H3.out _).mono ?_
  rintro e w' ⟨rfl, rfl⟩
  go_wp2_with fail
  refine (subsets_any _ _ _ (by omega) (by omega) (by omega) (by omega)).mono ?_
  rintro e w' ⟨rfl, rfl⟩
  go_wp2_with fail
  refine (subsets_any _ _ _ (by omega) (by omega) (by omega) (by omega)).mono ?_
  rintro e w' ⟨rfl, rfl⟩
  go_wp2_with fail
  refine (fraction_any _ _ _ (by omega) (by omega) (by omega) (by omega)).mono ?_
  rintro e w1 ⟨rfl, hb⟩
  have hb2 := bel_trans (bel_alloc w _) hb
  obtain ⟨hc, hf⟩ := bcell hb
  have hz : w.heap.size < w1.heap.size := by have := hb.size; simp at this; omega
  have q0 : w1.cell? ⟨w.heap.size, 0, none⟩ = some (.int .i64 0) := (hc _ _ (by simp)).trans (new2 w _ _ _).1
  have q1 : w1.cell? ⟨w.heap.size, 1, none⟩ = some (.int .i64 0) := (hc _ _ (by simp)).trans (new2 w _ _ _).2
  go_wp2_with fail
  exact bodyPost_ret (v := .tuple #[.agg #[.int .i64 (riskN b x s), .int .i64 (riskD b x s)], .bool true]) (by simp [results, Try.results41, go_sem, q0, q1, riskN, riskD]) rfl ⟨by rw [R.out.1, R.out.2.1, R.out.2.2], bel_set2 hb2 (Nat.le_refl _) _ _⟩
theorem implRiskOf_no (b x s : Int) (w : World) (h : riskB b x s = false) :
    Calls Try.prog 41 #[.int .i64 b, .int .i64 x, .int .i64 s] w (GivesF (riskNV b x s) (riskDV b x s) (riskB b x s) w) := by
  have R := Lib.hid (risk_no h)
  cases h1 : inR b 0 30
  · have H1 := Lib.hid h1
    clear h h1
    go_enter Try.func41, Try.ntmps41
    go_wp2_with fail
    refine (within_val H1.out _).mono ?_
    rintro e w' ⟨rfl, rfl⟩
    go_wp2_with fail
    exact bodyPost_ret (v := .tuple #[.agg #[.int .i64 0, .int .i64 0], .bool false]) (by simp [results, Try.results41, go_sem]) rfl ⟨by rw [R.out.1, R.out.2.1, R.out.2.2], bel_alloc _ _⟩
  · cases h2 : inR x 0 b
    · have H1 := Lib.hid h1
      have H2 := Lib.hid h2
      clear h h1 h2
      go_enter Try.func41, Try.ntmps41
      go_wp2_with fail
      refine (within_val H1.out _).mono ?_
      rintro e w' ⟨rfl, rfl⟩
      go_wp2_with fail
      refine (within_val H2.out _).mono ?_
      rintro e w' ⟨rfl, rfl⟩
      go_wp2_with fail
      exact bodyPost_ret (v := .tuple #[.agg #[.int .i64 0, .int .i64 0], .bool false]) (by simp [results, Try.results41, go_sem]) rfl ⟨by rw [R.out.1, R.out.2.1, R.out.2.2], bel_alloc _ _⟩
    · have h3 : inR s 0 b = false := by
        cases h3 : inR s 0 b
        · rfl
        · rw [risk_in h1 h2 h3] at h; cases h
      have H1 := Lib.hid h1
      have H2 := Lib.hid h2
      have H3 := Lib.hid h3
      clear h h1 h2 h3
      go_enter Try.func41, Try.ntmps41
      go_wp2_with fail
      refine (within_val H1.out _).mono ?_
      rintro e w' ⟨rfl, rfl⟩
      go_wp2_with fail
      refine (within_val H2.out _).mono ?_
      rintro e w' ⟨rfl, rfl⟩
      go_wp2_with fail
      refine (within_val H3.out _).mono ?_
      rintro e w' ⟨rfl, rfl⟩
      go_wp2_with fail
      exact bodyPost_ret (v := .tuple #[.agg #[.int .i64 0, .int .i64 0], .bool false]) (by simp [results, Try.results41, go_sem]) rfl ⟨by rw [R.out.1, R.out.2.1, R.out.2.2], bel_alloc _ _⟩
theorem implRiskOf_any (b x s : Int) (w : World) :
    Calls Try.prog 41 #[.int .i64 b, .int .i64 x, .int .i64 s] w (GivesF (riskNV b x s) (riskDV b x s) (riskB b x s) w) := by
  cases h : riskB b x s
  · have := implRiskOf_no b x s w h
    rwa [h] at this
  · simp only [riskB, Bool.and_eq_true] at h
    have := implRiskOf_yes b x s w h.1.1 h.1.2 h.2
    rwa [risk_in h.1.1 h.1.2 h.2] at this
end Go.Proofs.Ytfanjnoaifhnnaa
