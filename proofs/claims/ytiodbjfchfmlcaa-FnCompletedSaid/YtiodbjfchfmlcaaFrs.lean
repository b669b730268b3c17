/- Lists of fractions that the call made. -/
import Derived.Test.YtiodbjfchfmlcaaPhM
import Derived.Test.YtiodbjfchfmlcaaCells
import Derived.Test.YtiodbjfchfmlcaaBo
namespace Go.Proofs.Ytiodbjfchfmlcaa
set_option linter.unusedVariables false
set_option linter.unusedSimpArgs false
set_option maxRecDepth 100000
open Go.RowKit Go.Deep
def frv (D a : Int) : List Value := [.int .i64 (redN a D), .int .i64 (redD a D)]
theorem frv_scale {a D k : Int} (h : 1 ≤ D) (hk : 1 ≤ k) : frv (D * k) (a * k) = frv D a := by
  unfold frv
  rw [(red_scale h hk).1, (red_scale h hk).2]
def FrsO (w : World) (base : Nat) (A : Option Addr) (n c : Nat) (D : Int) (l : List Int) : Prop := OwnR 32 2 w base A n c (l.map (frv D))
theorem FrsO.len {w : World} {base n c : Nat} {A : Option Addr} {D : Int} {l : List Int} (h : FrsO w base A n c D l) : l.length = n := by have := h.2.1; simpa using this
theorem FrsO.scale {w : World} {base n c : Nat} {A : Option Addr} {D k : Int} {l : List Int} (h : FrsO w base A n c D l) (hD : 1 ≤ D) (hk : 1 ≤ k) : FrsO w base A n c (D * k) (l.map (· * k)) := by
  have e : (l.map (· * k)).map (frv (D * k)) = l.map (frv D) := by
    rw [List.map_map]
    exact List.map_congr_left fun a _ => frv_scale hD hk
  unfold FrsO
  rw [e]
  exact h
theorem FrsO.at {w : World} {base n c j : Nat} {A : Option Addr} {D a : Int} {l : List Int} (h : FrsO w base A n c D l) (ha : l[j]? = some a) :
    ∃ g, A = some ⟨g, 0, none⟩ ∧ base ≤ g ∧ g < w.heap.size ∧ w.cell? ⟨g, j * 2, none⟩ = some (.int .i64 (redN a D)) ∧ w.cell? ⟨g, j * 2 + 1, none⟩ = some (.int .i64 (redD a D)) ∧ ∀ i, w.frozen? ⟨g, i, none⟩ = false := by
  have hl := h.len
  have hj := (List.getElem?_eq_some_iff.1 ha).1
  obtain ⟨g, rfl, h1, h2⟩ := OwnR.form h (by omega)
  have hr : (l.map (frv D))[j]? = some (frv D a) := by rw [List.getElem?_map, ha]; rfl
  exact ⟨g, rfl, h1, h2, OwnR.cell h hr (i := 0) rfl, OwnR.cell h hr (i := 1) rfl, fun i => OwnR.free h i⟩
theorem info_fr : (Try.prog.info? 32).map (fun i => (i.zero, i.size, i.bytes)) = some (some (.agg #[.int .i64 0, .int .i64 0]), 2, 16) := by kernel_rfl
theorem frsO_lit (w : World) (D : Int) : FrsO (w.alloc (.cells #[] 32)) w.heap.size (some ⟨w.heap.size, 0, none⟩) 0 0 D [] := ownR_lits (rs := []) w (by simp) (by unfold maxLen; simp)
theorem app_fr1 {ops : Array Oper} {rest : List Oper} {o : Oper} {a : Act} {Q : Exit → Act → World → Prop} (w : World) (hgd : o.guard = none) (s x : Operand)
    (ho : o.op = .call { callee := .builtin .append, args := #[s, x], argTypes := #[39, 39] }) (base : Nat)
    (A : Option Addr) (n c : Nat) (D : Int) (l : List Int) (hs : a.eval s = .slice A n c) (hown : FrsO w base A n c D l) (t N M : Int) (hN : redN t D = N) (hM : redD t D = M)
    (hx : a.eval x = .slice (some ⟨w.heap.size, 0, none⟩) 1 1) (hn : n ≤ 1048576) (hbase : base ≤ w.heap.size)
    (h : ∀ A' c' w1, FrsO w1 base A' (n + 1) c' D (l ++ [t]) → w.grownBy w1 (Value.slice A n c).ownBlock → NewBlk w (.slice A n c) (.slice A' (n + 1) c') → wpList Try.prog ops Q rest (a.put o.dst (.slice A' (n + 1) c')) w1) :
    wpList Try.prog ops Q (o :: rest) a (w.alloc (.cells #[.int .i64 N, .int .i64 M] 32)) := by
  subst hN
  subst hM
  obtain ⟨i0, hi, hz0, hz1, hz2⟩ := info_parts info_fr
  refine app_rec w hgd s x _ _ ho base i0 _ 2 16 Try.underlying39 hi hz0 hz1 hz2 rfl (by omega) A n c _ hs hown (frv D t) rfl (by intro u hu; simp [frv] at hu; rcases hu with rfl | rfl <;> rfl) hx (by unfold maxLen; omega) (by omega) hbase ?_
  intro A' c' w1 p1 p2 p3
  refine h A' c' w1 ?_ p2 p3
  unfold FrsO
  rw [List.map_append]
  exact p1
/-- A fraction stored into a list. -/
theorem FrsO.put {w : World} {base n c g j : Nat} {D a t : Int} {l : List Int} (h : FrsO w base (some ⟨g, 0, none⟩) n c D l) (ha : l[j]? = some a) :
    FrsO ((w.setCell ⟨g, j * 2, none⟩ (.int .i64 (redN t D))).setCell ⟨g, j * 2 + 1, none⟩ (.int .i64 (redD t D))) base (some ⟨g, 0, none⟩) n c D (l.set j t) ∧
      w.grownBy ((w.setCell ⟨g, j * 2, none⟩ (.int .i64 (redN t D))).setCell ⟨g, j * 2 + 1, none⟩ (.int .i64 (redD t D))) (some g) := by
  have hj := (List.getElem?_eq_some_iff.1 ha).1
  have hr : (l.map (frv D))[j]? = some (frv D a) := by rw [List.getElem?_map, ha]; rfl
  obtain ⟨p1, p2⟩ := OwnR.put h (i := 0) (.int .i64 (redN t D)) hr (by omega)
  have hr2 : ((l.map (frv D)).set j ((frv D a).set 0 (.int .i64 (redN t D))))[j]? = some ((frv D a).set 0 (.int .i64 (redN t D))) := by
    rw [List.getElem?_set_self (by simpa using hj)]
  obtain ⟨q1, q2⟩ := OwnR.put p1 (i := 1) (.int .i64 (redD t D)) hr2 (by omega)
  simp only [Nat.add_zero] at q1 q2 p2
  refine ⟨?_, grown_trans p2 q2⟩
  unfold FrsO
  rw [List.set_set] at q1
  rw [List.map_set]
  exact q1
theorem red_lt2 {a b D E : Int} (h : 1 ≤ D) (h' : 1 ≤ E) : redN a D * redD b E < redN b E * redD a D ↔ a * E < b * D := by
  have p := redD_pos (n := a) h
  have p' := redD_pos (n := b) h'
  have v := red_val (n := a) h
  have v' := red_val (n := b) h'
  have q := Int.mul_pos (a := redD a D) (b := redD b E) (by omega) (by omega)
  have r := Int.mul_pos (a := D) (b := E) (by omega) (by omega)
  have e1 : (redN a D * redD b E) * (D * E) = (a * E) * (redD a D * redD b E) := by
    calc (redN a D * redD b E) * (D * E) = (redN a D * D) * (redD b E * E) := by ac_rfl
      _ = (a * E) * (redD a D * redD b E) := by rw [v]; ac_rfl
  have e2 : (redN b E * redD a D) * (D * E) = (b * D) * (redD a D * redD b E) := by
    calc (redN b E * redD a D) * (D * E) = (redN b E * E) * (redD a D * D) := by ac_rfl
      _ = (b * D) * (redD a D * redD b E) := by rw [v']; ac_rfl
  constructor
  · intro hh
    have := Int.mul_lt_mul_of_pos_right hh r
    rw [e1, e2] at this
    exact Int.lt_of_mul_lt_mul_right this (by omega)
  · intro hh
    have := Int.mul_lt_mul_of_pos_right hh q
    rw [← e1, ← e2] at this
    exact Int.lt_of_mul_lt_mul_right this (by omega)
theorem compare2_ok {x y D E : Int} (h : Sm x D) (k : Sm y E) (w : World) :
    Calls Try.prog 31 #[FV x D, FV y E] w fun e w' => e = .returned (.int .i64 (cmpI (x * E) (y * D))) ∧ Below w.heap.size w w' := by
  obtain ⟨x1, x2, x3, x4⟩ := h.red
  obtain ⟨y1, y2, y3, y4⟩ := k.red
  have l1 := red_lt2 (a := x) (b := y) h.d1 k.d1
  have l2 := red_lt2 (a := y) (b := x) k.d1 h.d1
  unfold FV
  obtain ⟨a, ha⟩ : ∃ z, redN x D = z := ⟨_, rfl⟩
  obtain ⟨b, hb⟩ : ∃ z, redD x D = z := ⟨_, rfl⟩
  obtain ⟨c, hc⟩ : ∃ z, redN y E = z := ⟨_, rfl⟩
  obtain ⟨d, hd⟩ : ∃ z, redD y E = z := ⟨_, rfl⟩
  rw [ha] at x1 x2
  rw [hb] at x3 x4
  rw [hc] at y1 y2
  rw [hd] at y3 y4
  rw [ha, hb, hc, hd] at l1 l2 ⊢
  have m1 := mul_bd x1 x2 y3 y4
  have m2 := mul_bd y1 y2 x3 x4
  have W1 : IntKind.i64.wrap (a * d) = a * d := IntWalk.i64_in _ (by omega)
  have W2 : IntKind.i64.wrap (c * b) = c * b := IntWalk.i64_in _ (by omega)
  have b0 := bel_trans (bel_alloc w (.cells #[.int .i64 a, .int .i64 b] 32)) (bel_alloc _ (.cells #[.int .i64 c, .int .i64 d] 32))
  have BB := Lib.hid b0
  rcases Int.lt_trichotomy (x * E) (y * D) with hlt | heq | hgt
  · have d1 := decide_eq_true (l1.2 hlt)
    have R := Lib.hid (show cmpI (x * E) (y * D) = -1 from if_pos hlt)
    clear l1 l2 m1 m2 hlt b0
    go_enter Try.func31, Try.ntmps31
    go_wp2_with fail
    go_quiet (fail)
    go_wp2_with fail
    go_ret
    exact ⟨by first | rfl | (simp [R.out]) | (rw [R.out]; rfl), below_drewN BB.out _⟩
  · have d1 := decide_eq_false (show ¬ a * d < c * b from fun hh => by have := l1.1 hh; omega)
    have d2 := decide_eq_false (show ¬ c * b < a * d from fun hh => by have := l2.1 hh; omega)
    have R := Lib.hid (show cmpI (x * E) (y * D) = 0 by unfold cmpI; rw [if_neg (by omega), if_neg (by omega)])
    clear l1 l2 m1 m2 heq b0
    go_enter Try.func31, Try.ntmps31
    go_wp2_with fail
    go_quiet (fail)
    go_wp2_with fail
    go_ret
    exact ⟨by first | rfl | (simp [R.out]) | (rw [R.out]; rfl), below_drewN BB.out _⟩
  · have d1 := decide_eq_false (show ¬ a * d < c * b from fun hh => by have := l1.1 hh; omega)
    have d2 := decide_eq_true (l2.2 hgt)
    have R := Lib.hid (show cmpI (x * E) (y * D) = 1 by unfold cmpI; rw [if_neg (by omega), if_pos hgt])
    clear l1 l2 m1 m2 hgt b0
    go_enter Try.func31, Try.ntmps31
    go_wp2_with fail
    go_quiet (fail)
    go_wp2_with fail
    go_ret
    exact ⟨by first | rfl | (simp [R.out]) | (rw [R.out]; rfl), below_drewN BB.out _⟩
end Go.Proofs.Ytiodbjfchfmlcaa
