/- Contracts of RiskOf and of what makes fractions; the walk of its law. -/
import Derived.Test.YtiodbjfchfmlcaaChoose
namespace Go.Proofs.Ytiodbjfchfmlcaa
set_option linter.unusedVariables false
open Go.RowKit

theorem redN_nonneg {n d : Int} (h : 0 ≤ n) : 0 ≤ redN n d := by
  unfold redN; exact Int.tdiv_nonneg h (gcdI_nonneg _ _)
theorem red_bd {n d b : Int} (h : -b ≤ n) (h' : n ≤ b) : -b ≤ redN n d ∧ redN n d ≤ b := tdiv_bd h h'
theorem redD_bd {n d b : Int} (h : 1 ≤ d) (h' : d ≤ b) : 1 ≤ redD n d ∧ redD n d ≤ b := by
  have g0 : 1 ≤ gcdI (absI n) d := gcdI_bd (.inr (by omega))
  have g1 := gcdI_le (a := absI n) (show 0 < d by omega)
  have h2 := tdiv_bd (n := d) (g := gcdI (absI n) d) (b := b) (by omega) h'
  refine ⟨?_, h2.2⟩
  unfold redD
  rw [Int.tdiv_eq_ediv_of_nonneg (by omega)]
  have := Int.le_ediv_of_mul_le (a := 1) (b := d) (c := gcdI (absI n) d) (by omega) (by omega)
  exact this
theorem absI_toNat (n : Int) : (absI n).toNat = n.natAbs := by unfold absI; split <;> omega
theorem red_coprime {n d : Int} (h : 1 ≤ d) : gcdI (absI (redN n d)) (redD n d) = 1 := by
  have e : gcdI (absI n) d = (Nat.gcd n.natAbs d.toNat : Nat) := by unfold gcdI; rw [absI_toNat]
  have hpos : 0 < Nat.gcd n.natAbs d.toNat := Nat.gcd_pos_of_pos_right _ (by omega)
  have e1 : (redN n d).natAbs = n.natAbs / Nat.gcd n.natAbs d.toNat := by
    unfold redN; rw [e, Int.natAbs_tdiv, Int.natAbs_natCast]; rfl
  have e2 : (redD n d).toNat = d.toNat / Nat.gcd n.natAbs d.toNat := by
    unfold redD; rw [e, Int.tdiv_eq_ediv_of_nonneg (by omega)]
    obtain ⟨x, rfl⟩ := Int.eq_ofNat_of_zero_le (show 0 ≤ d by omega)
    rw [Int.toNat_natCast, ← Int.natCast_ediv, Int.toNat_natCast]
  have : gcdI (absI (redN n d)) (redD n d) = (Nat.gcd (redN n d).natAbs (redD n d).toNat : Nat) := by unfold gcdI; rw [absI_toNat]
  rw [this, e1, e2, Nat.gcd_div (Nat.gcd_dvd_left _ _) (Nat.gcd_dvd_right _ _), Nat.div_self hpos]
  rfl
theorem red_ok {n d : Int} (h0 : -1000000000 ≤ n) (h1 : n ≤ 1000000000) (h2 : 1 ≤ d) (h3 : d ≤ 1000000000) : okF (redN n d) (redD n d) = true := by
  have a := red_bd (d := d) h0 h1
  have b := redD_bd (n := n) h2 h3
  simp [okF, inR_true.2 b, inR_true.2 a, red_coprime h2]

/-- What was there before a call reads behind it as before. -/
theorem bcell {W w1 : World} (hb : Below W.heap.size W w1) : (∀ b o, b < W.heap.size → w1.cell? ⟨b, o, none⟩ = W.cell? ⟨b, o, none⟩) ∧ (∀ b o, b < W.heap.size → w1.frozen? ⟨b, o, none⟩ = W.frozen? ⟨b, o, none⟩) :=
  ⟨fun b o h => hb.cell (p := ⟨b, o, none⟩) h, fun b o h => hb.frozen (p := ⟨b, o, none⟩) h⟩
/-- A fraction if it is valid. -/
def tN (n d : Int) : Int := if okF n d then n else 0
def tD (n d : Int) : Int := if okF n d then d else 0
theorem told_no {n d : Int} (h : okF n d = false) : tN n d = 0 ∧ tD n d = 0 := by simp [tN, tD, h]
theorem told_yes {n d : Int} (h : okF n d = true) : tN n d = n ∧ tD n d = d := by simp [tN, tD, h]
/-- A fraction and whether it is one. -/
def GivesF (n d : Int) (b : Bool) (w : World) (e : Ending) (w' : World) : Prop :=
  e = .returned (.tuple #[.agg #[.int .i64 n, .int .i64 d], .bool b]) ∧ Below w.heap.size w w'
theorem bel2 {w w1 : World} {o1 o2 : Obj} (hb : Below ((w.alloc o1).alloc o2).heap.size ((w.alloc o1).alloc o2) w1) (a b : Value) : Below w.heap.size w ((w1.setCell ⟨w.heap.size + 1, 0, none⟩ a).setCell ⟨w.heap.size + 1, 1, none⟩ b) :=
  ((bel_trans (bel_trans (bel_alloc w o1) (bel_alloc _ o2)) hb).setCell (by simp) a).setCell (by simp) b
theorem new2 (w : World) (a b : Value) (t : TypeId) : (w.alloc (.cells #[a, b] t)).cell? ⟨w.heap.size, 0, none⟩ = some a ∧ (w.alloc (.cells #[a, b] t)).cell? ⟨w.heap.size, 1, none⟩ = some b := by
  refine ⟨?_, ?_⟩ <;> rw [World.cell?_alloc_at _ _ _ _ rfl] <;> rfl
theorem old2 (w : World) (a b : Value) (t : TypeId) (o : Obj) : ((w.alloc (.cells #[a, b] t)).alloc o).cell? ⟨w.heap.size, 0, none⟩ = some a ∧ ((w.alloc (.cells #[a, b] t)).alloc o).cell? ⟨w.heap.size, 1, none⟩ = some b := by
  refine ⟨?_, ?_⟩ <;> rw [World.cell?_alloc_past _ _ _ (by simp), World.cell?_alloc_at _ _ _ _ rfl] <;> rfl
theorem bel_set2 {w w1 : World} {g : Nat} (hb : Below w.heap.size w w1) (hg : w.heap.size ≤ g) (a b : Value) : Below w.heap.size w ((w1.setCell ⟨g, 0, none⟩ a).setCell ⟨g, 1, none⟩ b) :=
  (hb.setCell hg a).setCell hg b
theorem told_any (n d : Int) (w : World) :
    Calls Try.prog 39 #[.agg #[.int .i64 n, .int .i64 d]] w (GivesF (tN n d) (tD n d) (okF n d) w) := by
  cases hv : okF n d
  · have HV := Lib.hid hv
    have R := Lib.hid (told_no hv)
    clear hv
    go_enter Try.func39, Try.ntmps39
    go_wp2_with fail
    refine (validFraction_any n d _).mono ?_
    rintro e w1 ⟨rfl, hb⟩
    rw [HV.out]
    obtain ⟨hc, hf⟩ := bcell hb
    have hz : w.heap.size + 1 < w1.heap.size := by have := hb.size; simp at this; omega
    go_wp2_with fail
    exact bodyPost_ret (v := .tuple #[.agg #[.int .i64 0, .int .i64 0], .bool false]) (by simp [results, Try.results39, go_sem, hc]) rfl ⟨by rw [R.out.1, R.out.2], bel2 hb _ _⟩
  · have HV := Lib.hid hv
    have R := Lib.hid (told_yes hv)
    clear hv
    go_enter Try.func39, Try.ntmps39
    go_wp2_with fail
    refine (validFraction_any n d _).mono ?_
    rintro e w1 ⟨rfl, hb⟩
    rw [HV.out]
    obtain ⟨hc, hf⟩ := bcell hb
    have hz : w.heap.size + 1 < w1.heap.size := by have := hb.size; simp at this; omega
    go_wp2_with fail
    exact bodyPost_ret (v := .tuple #[.agg #[.int .i64 n, .int .i64 d], .bool true]) (by simp [results, Try.results39, go_sem, hc]) rfl ⟨by rw [R.out.1, R.out.2], bel2 hb _ _⟩
/-- The risk of a sample: its fraction. -/
def riskB (b x s : Int) : Bool := inR b 0 30 && inR x 0 b && inR s 0 b
def riskN (b x s : Int) : Int := redN (chsI (b - x) s) (chsI b s)
def riskD (b x s : Int) : Int := redD (chsI (b - x) s) (chsI b s)
def riskNV (b x s : Int) : Int := if riskB b x s then riskN b x s else 0
def riskDV (b x s : Int) : Int := if riskB b x s then riskD b x s else 0
theorem risk_no {b x s : Int} (h : riskB b x s = false) : riskB b x s = false ∧ riskNV b x s = 0 ∧ riskDV b x s = 0 := by simp [riskNV, riskDV, h]
theorem risk_yes {b x s : Int} (h : riskB b x s = true) : riskB b x s = true ∧ riskNV b x s = riskN b x s ∧ riskDV b x s = riskD b x s := by simp [riskNV, riskDV, h]
theorem risk_in {b x s : Int} (h1 : inR b 0 30 = true) (h2 : inR x 0 b = true) (h3 : inR s 0 b = true) : riskB b x s = true := by simp [riskB, h1, h2, h3]
theorem risk_out1 {b x s : Int} (h1 : inR b 0 30 = false) : riskB b x s = false := by simp [riskB, h1]
theorem risk_out2 {b x s : Int} (h1 : inR x 0 b = false) : riskB b x s = false := by simp [riskB, h1]
theorem risk_out3 {b x s : Int} (h1 : inR s 0 b = false) : riskB b x s = false := by simp [riskB, h1]
/-- What bounds the two counts. -/
theorem risk_bd {b x s : Int} (h1 : 0 ≤ b) (h2 : b ≤ 30) (h3 : 0 ≤ x) (h4 : x ≤ b) (h5 : 0 ≤ s) (h6 : s ≤ b) :
    0 ≤ chsI (b - x) s ∧ chsI (b - x) s ≤ 155117520 ∧ 1 ≤ chsI b s ∧ chsI b s ≤ 155117520 :=
  ⟨(chsI_bd (by omega)).1, (chsI_bd (by omega)).2, chsI_pos (by omega) h6 h5, (chsI_bd (by omega)).2⟩
theorem risk_ok {b x s : Int} (h1 : 0 ≤ b) (h2 : b ≤ 30) (h3 : 0 ≤ x) (h4 : x ≤ b) (h5 : 0 ≤ s) (h6 : s ≤ b) : okF (riskN b x s) (riskD b x s) = true := by
  obtain ⟨a1, a2, a3, a4⟩ := risk_bd h1 h2 h3 h4 h5 h6
  exact red_ok (by omega) (by omega) a3 (by omega)
end Go.Proofs.Ytiodbjfchfmlcaa
