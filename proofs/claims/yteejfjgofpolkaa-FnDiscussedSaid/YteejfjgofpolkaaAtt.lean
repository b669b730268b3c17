/- Whether an argument attacks another one, as the program looks it up. -/
import Derived.Test.YteejfjgofpolkaaDefd
import Derived.Test.YteejfjgofpolkaaGrf2
import Derived.Deep.QuietTactic
import Derived.BigQuiet
namespace Go.Proofs.Yteejfjgofpolkaa
set_option linter.unusedVariables false
set_option linter.unusedSimpArgs false
set_option maxRecDepth 100000
open Go.RowKit Go.Deep
/-- x attacks y. -/
def attB (es : List (Nat × Nat)) (x y : Int) : Bool := es.any fun p => decide ((p.1 : Int) = x) && decide ((p.2 : Int) = y)
theorem attB_nat {es : List (Nat × Nat)} (x y : Nat) : attB es x y = true ↔ (x, y) ∈ es := by
  unfold attB
  rw [List.any_eq_true]
  constructor
  · rintro ⟨⟨a, b⟩, hp, h⟩
    rw [Bool.and_eq_true, decide_eq_true_eq, decide_eq_true_eq] at h
    simp only at h
    rw [show a = x by omega, show b = y by omega] at hp
    exact hp
  · intro h
    exact ⟨_, h, by simp⟩
theorem attCl_ok (p : Nat × Nat) (x y : Int) (gx gy : Nat) (A : Option Addr) (c : Nat) (w : World) (X : Cs w gx [.int .i64 x]) (Y : Cs w gy [.int .i64 y]) (h : Ints .i64 w A 2 c (erow p)) :
    Calls Try.prog 100 #[.slice A 2 c, .pointer (some ⟨gx, 0, none⟩), .pointer (some ⟨gy, 0, none⟩)] w fun e w' => e = .returned (.bool (decide ((p.1 : Int) = x) && decide ((p.2 : Int) = y))) ∧ Below w.heap.size w w' := by
  have x0 := X.cell 0 rfl
  have y0 := Y.cell 0 rfl
  obtain ⟨b, off, rfl, c0⟩ := h.get (j := 0) (z := (p.1 : Int)) rfl
  obtain ⟨b', off', e, c1⟩ := h.get (j := 1) (z := (p.2 : Int)) rfl
  simp only [Option.some.injEq, Addr.mk.injEq, and_true] at e
  obtain ⟨rfl, rfl⟩ := e
  rw [Nat.add_zero] at c0
  obtain ⟨u, hu⟩ : ∃ u : Int, (p.1 : Int) = u := ⟨_, rfl⟩
  obtain ⟨v, hv⟩ : ∃ v : Int, (p.2 : Int) = v := ⟨_, rfl⟩
  rw [hu] at c0 ⊢
  rw [hv] at c1 ⊢
  clear h X Y hu hv
  by_cases h1 : u = x
  · have q1 : (u == x) = true := by simp [h1]
    have E1 := Lib.hid (decide_eq_true h1)
    clear h1
    by_cases h2 : v = y
    · have q2 : (v == y) = true := by simp [h2]
      have E2 := Lib.hid (decide_eq_true h2)
      clear h2
      go_enter Try.func100, Try.ntmps100
      go_wp2_with fail
      go_quiet (fail)
      go_wp2_with fail
      go_ret
      exact ⟨by rw [E1.out, E2.out]; rfl, below_drewN (Below.refl _ _) _⟩
    · have q2 : (v == y) = false := by simp [h2]
      have E2 := Lib.hid (decide_eq_false h2)
      clear h2
      go_enter Try.func100, Try.ntmps100
      go_wp2_with fail
      go_quiet (fail)
      go_wp2_with fail
      go_ret
      exact ⟨by rw [E1.out, E2.out]; rfl, below_drewN (Below.refl _ _) _⟩
  · have q1 : (u == x) = false := by simp [h1]
    have E1 := Lib.hid (decide_eq_false h1)
    clear h1
    go_enter Try.func100, Try.ntmps100
    go_wp2_with fail
    go_quiet (fail)
    go_wp2_with fail
    go_ret
    exact ⟨by rw [E1.out]; rfl, below_drewN (Below.refl _ _) _⟩
theorem idxAtt_ok (es : List (Nat × Nat)) (x y : Int) (gx gy : Nat) (A : Option Addr) (n c : Nat) (w : World) (X : Cs w gx [.int .i64 x]) (Y : Cs w gy [.int .i64 y]) (h : Rws w A n c (es.map erow)) :
    Calls Try.prog 116 #[.slice A n c, .func (.func 100) #[] #[.pointer (some ⟨gx, 0, none⟩), .pointer (some ⟨gy, 0, none⟩)]] w fun e w' => ∃ r : Int, e = .returned (.int .i64 r) ∧ decide (0 ≤ r) = attB es x y ∧ Below w.heap.size w w' := by
  have hn := h.short
  have HL := Lib.hid (show es.length = n by have := h.1; simpa using this)
  have HX := Lib.hid X
  have HY := Lib.hid Y
  have H := Lib.hid h
  clear h X Y
  go_enter Try.func116, Try.ntmps116
  go_wp2_with fail
  go_loopw [8] (fun t wr => ∃ j : Nat, j ≤ n ∧ t = .int .i64 j ∧ Hid ((es.take j).any (fun p => decide ((p.1 : Int) = x) && decide ((p.2 : Int) = y)) = false) ∧ Below w.heap.size w wr) (fun t _ => n - (intOf t).toNat)
  case atStart => exact ⟨0, Nat.zero_le _, rfl, rfl, Below.refl _ _⟩
  case round =>
    obtain ⟨j, hj, rfl, T, hb⟩ := hrel
    have HB := Lib.hid hb
    clear hb
    by_cases hlt : j < n
    · have d0 := decide_eq_true (show (j : Int) < (n : Int) by omega)
      obtain ⟨b, off, A', n', c', z, rfl, _, cz, hz, ez⟩ := (H.out.below HB.out).at hlt
      have j0 : (0 : Int) ≤ (j : Int) := by omega
      have j1 : (j : Int) < (n : Int) := by omega
      obtain ⟨p, hp⟩ : ∃ p, es[j]? = some p := ⟨_, List.getElem?_eq_getElem (by have := HL.out; omega)⟩
      have ezp : z = erow p := by
        have := ez.out
        rw [List.getElem?_map, hp] at this
        exact (Option.some.inj this).symm
      subst ezp
      have hn2 : n' = 2 := hz.1.symm
      subst hn2
      have CL := Lib.hid (attCl_ok p x y gx gy A' c' _ (HX.out.below HB.out) (HY.out.below HB.out) hz)
      obtain ⟨v, hv⟩ : ∃ v, (decide ((p.1 : Int) = x) && decide ((p.2 : Int) = y)) = v := ⟨_, rfl⟩
      rw [hv] at CL
      cases v
      · have R := Lib.hid (any_next (p := fun p : Nat × Nat => decide ((p.1 : Int) = x) && decide ((p.2 : Int) = y)) hp T.out hv)
        clear hz hv hp ez
        go_wp2_with fail
        refine CL.out.mono ?_
        rintro e w1 ⟨rfl, u1⟩
        have B1 := Lib.hid (bel_trans HB.out u1)
        clear u1 CL
        go_wp2_with fail
        go_roundw
        case rel => exact ⟨j + 1, by omega, by go_num, R.out, B1.out⟩
        case measure => simp [intOf]; omega
      · have R := Lib.hid (any_stop (p := fun p : Nat × Nat => decide ((p.1 : Int) = x) && decide ((p.2 : Int) = y)) hp hv)
        clear hz hv hp ez
        go_wp2_with fail
        refine CL.out.mono ?_
        rintro e w1 ⟨rfl, u1⟩
        have B1 := Lib.hid (bel_trans HB.out u1)
        clear u1 CL
        go_wp2_with fail
        go_ret
        exact ⟨j, rfl, by unfold attB; rw [R.out]; exact decide_eq_true (by omega), B1.out⟩
    · obtain rfl : j = n := by omega
      have d0 := decide_eq_false (show ¬ (j : Int) < (j : Int) by omega)
      have R := Lib.hid (any_end (p := fun p : Nat × Nat => decide ((p.1 : Int) = x) && decide ((p.2 : Int) = y)) (by rw [HL.out]; omega) T.out)
      go_wp2_with fail
      go_ret
      exact ⟨-1, rfl, by unfold attB; rw [R.out]; rfl, HB.out⟩
theorem contAtt_ok (es : List (Nat × Nat)) (x y : Int) (gx gy : Nat) (A : Option Addr) (n c : Nat) (w : World) (X : Cs w gx [.int .i64 x]) (Y : Cs w gy [.int .i64 y]) (h : Rws w A n c (es.map erow)) :
    Calls Try.prog 99 #[.slice A n c, .func (.func 100) #[] #[.pointer (some ⟨gx, 0, none⟩), .pointer (some ⟨gy, 0, none⟩)]] w fun e w' => e = .returned (.bool (attB es x y)) ∧ Below w.heap.size w w' := by
  have I := Lib.hid (idxAtt_ok es x y gx gy A n c w X Y h)
  go_enter Try.func99, Try.ntmps99
  go_wp2_with fail
  refine I.out.mono ?_
  rintro e w1 ⟨r, rfl, hr, b1⟩
  have R := Lib.hid hr
  have B1 := Lib.hid b1
  clear hr b1
  go_wp2_with fail
  go_ret
  exact ⟨by rw [← R.out]; rfl, B1.out⟩
theorem attacks_ok (es : List (Nat × Nat)) (cnt : Int) (x y : Int) (A : Option Addr) (m c : Nat) (w : World) (h : Rws w A m c (es.map erow)) :
    Calls Try.prog 69 #[.agg #[.int .i64 cnt, .slice A m c], .int .i64 x, .int .i64 y] w fun e w' => e = .returned (.bool (attB es x y)) ∧ Below w.heap.size w w' := by
  have b0 := bel_alloc w (.cells #[.int .i64 cnt, .slice A m c] 26)
  have C0 := Cs.new w [.int .i64 cnt, .slice A m c] 26
  have b1 := bel_alloc (w.alloc (.cells #[.int .i64 cnt, .slice A m c] 26)) (.cells #[.int .i64 x] 2)
  have X0 := Cs.new (w.alloc (.cells #[.int .i64 cnt, .slice A m c] 26)) [.int .i64 x] 2
  have b2 := bel_alloc ((w.alloc (.cells #[.int .i64 cnt, .slice A m c] 26)).alloc (.cells #[.int .i64 x] 2)) (.cells #[.int .i64 y] 2)
  have Y0 := Cs.new ((w.alloc (.cells #[.int .i64 cnt, .slice A m c] 26)).alloc (.cells #[.int .i64 x] 2)) [.int .i64 y] 2
  rw [show (w.alloc (.cells #[.int .i64 cnt, .slice A m c] 26)).heap.size = w.heap.size + 1 by simp] at X0
  rw [show ((w.alloc (.cells #[.int .i64 cnt, .slice A m c] 26)).alloc (.cells #[.int .i64 x] 2)).heap.size = w.heap.size + 2 by simp] at Y0
  have y1 := ((C0.below b1).below b2).cell 1 rfl
  have bb := bel_trans (bel_trans b0 b1) b2
  have I := Lib.hid (contAtt_ok es x y _ _ A m c _ (X0.below b2) Y0 (h.below bb))
  have BB := Lib.hid bb
  clear h b0 b1 b2 C0 X0 Y0 bb
  go_enter Try.func69, Try.ntmps69
  go_wp2_with fail
  refine I.out.mono ?_
  rintro e w1 ⟨rfl, u1⟩
  have B1 := Lib.hid (bel_trans BB.out u1)
  clear u1 I
  go_wp2_with fail
  go_ret
  exact ⟨rfl, B1.out⟩
end Go.Proofs.Yteejfjgofpolkaa
