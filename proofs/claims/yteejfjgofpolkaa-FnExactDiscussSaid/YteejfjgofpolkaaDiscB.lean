/- A discussion, on both sides. -/
import Derived.Test.YteejfjgofpolkaaSpDisc
namespace Go.Proofs.Yteejfjgofpolkaa
set_option linter.unusedVariables false
set_option linter.unusedSimpArgs false
set_option maxRecDepth 100000
open Go.RowKit Go.Deep
def GivesC (zs : List Int) (b : Bool) (w : World) (e : Ending) (w' : World) : Prop := ∃ A c, e = .returned (.tuple #[.slice A zs.length c, .bool b]) ∧ OwnI w' w.heap.size A zs.length c zs ∧ Below w.heap.size w w'
theorem argYes {cnt x : Int} {rows : List (List Int)} (h : (frB cnt rows && inR x 0 (cnt - 1)) = true) : ∃ (n : Nat) (es : List (Nat × Nat)) (a : Nat), cnt = n ∧ rows = es.map erow ∧ FrOk n es ∧ x = a ∧ a < n := by
  rw [Bool.and_eq_true] at h
  obtain ⟨n, es, rfl, rfl, ok⟩ := frB_yes h.1
  have h2 := inR_true.1 h.2
  exact ⟨n, es, x.toNat, rfl, rfl, ok, by omega, by omega⟩
theorem disc_both (cnt : Int) (hc1 : -9223372036854775808 ≤ cnt) (hc2 : cnt ≤ 9223372036854775807) (x : Int) (rows : List (List Int)) (R Y M : List Int) : ∃ (zs : List Int) (b : Bool), zs.length ≤ 1048576 ∧
    (∀ (A : Option Addr) (m c : Nat) (RA : Option Addr) (rc : Nat) (YA : Option Addr) (yc : Nat) (MA : Option Addr) (mc : Nat) (w : World), Rws w A m c rows → Ints .i64 w RA R.length rc R → Ints .i64 w YA Y.length yc Y → Ints .i64 w MA M.length mc M → Calls Try.prog 22 #[.agg #[.int .i64 cnt, .slice A m c], .int .i64 x, .agg #[.slice RA R.length rc, .slice YA Y.length yc], .slice MA M.length mc] w (GivesC zs b w)) ∧
    (∀ (A : Option Addr) (m c : Nat) (RA : Option Addr) (rc : Nat) (YA : Option Addr) (yc : Nat) (MA : Option Addr) (mc : Nat) (w : World), Rws w A m c rows → Ints .i64 w RA R.length rc R → Ints .i64 w YA Y.length yc Y → Ints .i64 w MA M.length mc M → Calls Try.prog 18 #[.agg #[.int .i64 cnt, .slice A m c], .int .i64 x, .agg #[.slice RA R.length rc, .slice YA Y.length yc], .slice MA M.length mc] w (GivesC zs b w)) := by
  cases hv : frB cnt rows && inR x 0 (cnt - 1)
  · refine ⟨[], false, by simp, fun A m c RA rc YA yc MA mc w h hR hY hM => (discI_no cnt hc1 hc2 x rows hv A m c _ _ _ w h).mono ?_, fun A m c RA rc YA yc MA mc w h hR hY hM => (discS_no cnt hc1 hc2 x rows hv A m c RA _ rc YA _ yc _ w h).mono ?_⟩ <;>
    · rintro e w' ⟨rfl, b⟩
      exact ⟨none, 0, rfl, ownI_nil _ _, b⟩
  · obtain ⟨n, es, a, rfl, rfl, ok, rfl, ha⟩ := argYes hv
    by_cases hp : DiscP n es a R Y M
    · refine ⟨outD a Y M M.length, true, ?_, fun A m c RA rc YA yc MA mc w h hR hY hM => (discI_ok n es ok a ha hv A m c RA _ rc R YA _ yc Y MA mc M w h hR hY hM).mono ?_, fun A m c RA rc YA yc MA mc w h hR hY hM => (discS_ok n es ok a ha hv A m c RA _ rc R YA _ yc Y MA mc M w h hR hY hM).mono ?_⟩
      · rw [outD_len]; have := hp.len; omega
      · rintro e w' ⟨zs, b, A', c', h1, _, h3, h4, h5⟩
        obtain ⟨rfl, rfl⟩ := h1 hp
        exact ⟨A', c', h3, h4, h5⟩
      · rintro e w' ⟨zs, b, A', c', h1, _, h3, h4, h5⟩
        obtain ⟨rfl, rfl⟩ := h1 hp
        exact ⟨A', c', h3, h4, h5⟩
    · refine ⟨[], false, by simp, fun A m c RA rc YA yc MA mc w h hR hY hM => (discI_ok n es ok a ha hv A m c RA _ rc R YA _ yc Y MA mc M w h hR hY hM).mono ?_, fun A m c RA rc YA yc MA mc w h hR hY hM => (discS_ok n es ok a ha hv A m c RA _ rc R YA _ yc Y MA mc M w h hR hY hM).mono ?_⟩ <;>
      · rintro e w' ⟨zs, b, A', c', _, h2, h3, h4, h5⟩
        obtain ⟨rfl, rfl⟩ := h2 hp
        exact ⟨A', c', h3, h4, h5⟩
end Go.Proofs.Yteejfjgofpolkaa
