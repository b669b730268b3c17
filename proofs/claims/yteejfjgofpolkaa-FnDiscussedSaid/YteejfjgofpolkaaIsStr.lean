/- Whether something is a strategy, as the program finds it. -/
import Derived.Test.YteejfjgofpolkaaAtt
import Derived.Test.YteejfjgofpolkaaFrame3
import Derived.Test.YteejfjgofpolkaaPhase
import Derived.Test.YteejfjgofpolkaaSkip
namespace Go.Proofs.Yteejfjgofpolkaa
set_option linter.unusedVariables false
set_option linter.unusedSimpArgs false
set_option maxRecDepth 100000
open Go.RowKit Go.Deep
/-- The reply to y's attack on x. -/
def GoodR (es : List (Nat × Nat)) (R Y : List Int) (x y : Nat) : Prop := 0 ≤ Y.getD y 0 ∧ ((Y.getD y 0).toNat, y) ∈ es ∧ R.getD (Y.getD y 0).toNat 0 ≠ 0 ∧ R.getD (Y.getD y 0).toNat 0 < R.getD x 0
def RowR (n : Nat) (R Y : List Int) (i : Nat) : Prop := (0 ≤ R.getD i 0 ∧ R.getD i 0 ≤ n) ∧ (-1 ≤ Y.getD i 0 ∧ Y.getD i 0 ≤ (n : Int) - 1)
structure StrP (n : Nat) (es : List (Nat × Nat)) (a : Nat) (R Y : List Int) : Prop where
  lr : R.length = n
  ly : Y.length = n
  ra : R.getD a 0 ≠ 0
  row : ∀ i, i < n → RowR n R Y i
  rep : ∀ x y, (y, x) ∈ es → R.getD x 0 ≠ 0 → GoodR es R Y x y
theorem getD_at {l : List Int} {i : Nat} {z : Int} (h : l[i]? = some z) : l.getD i 0 = z := by rw [List.getD_eq_getElem?_getD, h]; rfl
theorem isStr_no (cnt : Int) (hc1 : -9223372036854775808 ≤ cnt) (hc2 : cnt ≤ 9223372036854775807) (x : Int) (rows : List (List Int)) (hv : (frB cnt rows && inR x 0 (cnt - 1)) = false) (A : Option Addr) (m c : Nat) (v1 v2 : Value) (w : World) (h : Rws w A m c rows) :
    Calls Try.prog 39 #[.agg #[.int .i64 cnt, .slice A m c], .int .i64 x, .agg #[v1, v2]] w fun e w' => e = .returned (.bool false) ∧ Below w.heap.size w w' := by
  have a0 := bel_alloc w (.cells #[.int .i64 cnt, .slice A m c] 26)
  have C00 := Cs.new w [.int .i64 cnt, .slice A m c] 26
  have a1 := bel_alloc (w.alloc (.cells #[.int .i64 cnt, .slice A m c] 26)) (.cells #[v1, v2] 39)
  have b0 := bel_trans a0 a1
  have C0 := C00.below a1
  have y0 := C0.cell 0 rfl
  have y1 := C0.cell 1 rfl
  have V := Lib.hid (isArgument_any cnt hc1 hc2 x rows A m c _ (h.below b0))
  rw [hv] at V
  have B0 := Lib.hid b0
  clear h C0 b0 hv a0 a1 C00
  go_enter Try.func39, Try.ntmps39
  go_wp2_with fail
  refine V.out.mono ?_
  rintro e w1 ⟨rfl, b1⟩
  have B1 := Lib.hid (bel_trans B0.out b1)
  clear b1
  go_wp2_with fail
  go_ret
  exact ⟨rfl, B1.out⟩
theorem isStr_len1 (n : Nat) (es : List (Nat × Nat)) (ok : FrOk n es) (a : Nat) (ha : a < n) (hv : (frB n (es.map erow) && inR a 0 ((n : Int) - 1)) = true) (A : Option Addr) (m c : Nat) (RA : Option Addr) (nr rc : Nat) (R : List Int) (YA : Option Addr) (ny yc : Nat) (Y : List Int) (w : World) (h : Rws w A m c (es.map erow)) (hR : Ints .i64 w RA nr rc R) (hY : Ints .i64 w YA ny yc Y) (hne : nr ≠ n) :
    Calls Try.prog 39 #[.agg #[.int .i64 n, .slice A m c], .int .i64 a, .agg #[.slice RA nr rc, .slice YA ny yc]] w fun e w' => e = .returned (.bool false) ∧ Below w.heap.size w w' := by
  have a0 := bel_alloc w (.cells #[.int .i64 n, .slice A m c] 26)
  have C00 := Cs.new w [.int .i64 n, .slice A m c] 26
  have a1 := bel_alloc (w.alloc (.cells #[.int .i64 n, .slice A m c] 26)) (.cells #[.slice RA nr rc, .slice YA ny yc] 39)
  have D00 := Cs.new (w.alloc (.cells #[.int .i64 n, .slice A m c] 26)) [.slice RA nr rc, .slice YA ny yc] 39
  rw [show (w.alloc (.cells #[.int .i64 n, .slice A m c] 26)).heap.size = w.heap.size + 1 by simp] at D00
  have b0 := bel_trans a0 a1
  have C0 := C00.below a1
  have y0 := C0.cell 0 rfl
  have y1 := C0.cell 1 rfl
  have n10 := ok.n10
  have V := Lib.hid (isArgument_any n (by omega) (by omega) a (es.map erow) A m c _ (h.below b0))
  rw [hv] at V
  have OK := Lib.hid ok
  have H := Lib.hid h
  have HR := Lib.hid hR
  have HY := Lib.hid hY
  have HC := Lib.hid C0
  have HD := Lib.hid D00
  have B0 := Lib.hid b0
  have rs := hR.short
  have ys := hY.short
  clear h hR hY C0 D00 b0 hv a0 a1 C00 ok
  have q1 : ((nr : Int) != (n : Int)) = true := by simp; omega
  go_enter Try.func39, Try.ntmps39
  go_wp2_with fail
  refine V.out.mono ?_
  rintro e w1 ⟨rfl, b1⟩
  have B1 := Lib.hid (bel_trans B0.out b1)
  have z0 := (HC.out.below b1).cell 0 rfl
  have x0 := (HD.out.below b1).cell 0 rfl
  have x1 := (HD.out.below b1).cell 1 rfl
  clear b1 y0 y1
  go_wp2_with fail
  go_ret
  exact ⟨rfl, B1.out⟩
theorem isStr_len2 (n : Nat) (es : List (Nat × Nat)) (ok : FrOk n es) (a : Nat) (ha : a < n) (hv : (frB n (es.map erow) && inR a 0 ((n : Int) - 1)) = true) (A : Option Addr) (m c : Nat) (RA : Option Addr) (rc : Nat) (R : List Int) (YA : Option Addr) (ny yc : Nat) (Y : List Int) (w : World) (h : Rws w A m c (es.map erow)) (hR : Ints .i64 w RA n rc R) (hY : Ints .i64 w YA ny yc Y) (hne : ny ≠ n) :
    Calls Try.prog 39 #[.agg #[.int .i64 n, .slice A m c], .int .i64 a, .agg #[.slice RA n rc, .slice YA ny yc]] w fun e w' => e = .returned (.bool false) ∧ Below w.heap.size w w' := by
  have a0 := bel_alloc w (.cells #[.int .i64 n, .slice A m c] 26)
  have C00 := Cs.new w [.int .i64 n, .slice A m c] 26
  have a1 := bel_alloc (w.alloc (.cells #[.int .i64 n, .slice A m c] 26)) (.cells #[.slice RA n rc, .slice YA ny yc] 39)
  have D00 := Cs.new (w.alloc (.cells #[.int .i64 n, .slice A m c] 26)) [.slice RA n rc, .slice YA ny yc] 39
  rw [show (w.alloc (.cells #[.int .i64 n, .slice A m c] 26)).heap.size = w.heap.size + 1 by simp] at D00
  have b0 := bel_trans a0 a1
  have C0 := C00.below a1
  have y0 := C0.cell 0 rfl
  have y1 := C0.cell 1 rfl
  have n10 := ok.n10
  have V := Lib.hid (isArgument_any n (by omega) (by omega) a (es.map erow) A m c _ (h.below b0))
  rw [hv] at V
  have OK := Lib.hid ok
  have H := Lib.hid h
  have HR := Lib.hid hR
  have HY := Lib.hid hY
  have HC := Lib.hid C0
  have HD := Lib.hid D00
  have B0 := Lib.hid b0
  have rs := hR.short
  have ys := hY.short
  clear h hR hY C0 D00 b0 hv a0 a1 C00 ok
  have q0 : ((n : Int) != (n : Int)) = false := by simp
  have q1 : ((ny : Int) != (n : Int)) = true := by simp; omega
  go_enter Try.func39, Try.ntmps39
  go_wp2_with fail
  refine V.out.mono ?_
  rintro e w1 ⟨rfl, b1⟩
  have B1 := Lib.hid (bel_trans B0.out b1)
  have z0 := (HC.out.below b1).cell 0 rfl
  have x0 := (HD.out.below b1).cell 0 rfl
  have x1 := (HD.out.below b1).cell 1 rfl
  clear b1 y0 y1
  go_wp2_with fail
  go_ret
  exact ⟨rfl, B1.out⟩
set_option maxHeartbeats 4000000 in
theorem isStr_main (n : Nat) (es : List (Nat × Nat)) (ok : FrOk n es) (a : Nat) (ha : a < n) (hv : (frB n (es.map erow) && inR a 0 ((n : Int) - 1)) = true) (A : Option Addr) (m c : Nat) (RA : Option Addr) (rc : Nat) (R : List Int) (YA : Option Addr) (yc : Nat) (Y : List Int) (w : World) (h : Rws w A m c (es.map erow)) (hR : Ints .i64 w RA n rc R) (hY : Ints .i64 w YA n yc Y) :
    Calls Try.prog 39 #[.agg #[.int .i64 n, .slice A m c], .int .i64 a, .agg #[.slice RA n rc, .slice YA n yc]] w fun e w' => ∃ b, e = .returned (.bool b) ∧ (b = true ↔ StrP n es a R Y) ∧ Below w.heap.size w w' := by
  have NO : Hid (¬ StrP n es a R Y → (false = true ↔ StrP n es a R Y)) := fun hn => ⟨(fun e => absurd e (by simp)), fun e => absurd e hn⟩
  have YES : Hid (StrP n es a R Y → (true = true ↔ StrP n es a R Y)) := fun hn => ⟨fun _ => hn, fun _ => rfl⟩
  obtain ⟨rb, ro, r0, rfl, _, _, _, _, ea⟩ := hR.at ha
  obtain ⟨yb, yo, _, rfl, _, _, _, _, _⟩ := hY.at ha
  have ra0 := getD_at ea.out
  have RL := Lib.hid hR.1
  have YL := Lib.hid hY.1
  have a0 := bel_alloc w (.cells #[.int .i64 n, .slice A m c] 26)
  have C00 := Cs.new w [.int .i64 n, .slice A m c] 26
  have a1 := bel_alloc (w.alloc (.cells #[.int .i64 n, .slice A m c] 26)) (.cells #[.slice (some ⟨rb, ro, none⟩) n rc, .slice (some ⟨yb, yo, none⟩) n yc] 39)
  have D00 := Cs.new (w.alloc (.cells #[.int .i64 n, .slice A m c] 26)) [.slice (some ⟨rb, ro, none⟩) n rc, .slice (some ⟨yb, yo, none⟩) n yc] 39
  rw [show (w.alloc (.cells #[.int .i64 n, .slice A m c] 26)).heap.size = w.heap.size + 1 by simp] at D00
  have b0 := bel_trans a0 a1
  have C0 := C00.below a1
  have y0 := C0.cell 0 rfl
  have y1 := C0.cell 1 rfl
  have n10 := ok.n10
  have V := Lib.hid (isArgument_any n (by omega) (by omega) a (es.map erow) A m c _ (h.below b0))
  rw [hv] at V
  have OK := Lib.hid ok
  have H := Lib.hid h
  have HR := Lib.hid hR
  have HY := Lib.hid hY
  have HC := Lib.hid C0
  have HD := Lib.hid D00
  have B0 := Lib.hid b0
  have rs := hR.short
  have ys := hY.short
  clear h hR hY C0 D00 b0 hv a0 a1 C00 ok
  have q0 : ((n : Int) != (n : Int)) = false := by simp
  have a00 : (0 : Int) ≤ (a : Int) := by omega
  have a01 : (a : Int) < (n : Int) := by omega
  by_cases hz : r0 = 0
  · have N := Lib.hid (NO.out fun s => s.ra (by rw [ra0]; exact hz))
    have qz : (r0 == 0) = true := by simp [hz]
    go_enter Try.func39, Try.ntmps39
    go_wp2_with fail
    refine V.out.mono ?_
    rintro e w1 ⟨rfl, b1⟩
    have B1 := Lib.hid (bel_trans B0.out b1)
    have z0 := (HC.out.below b1).cell 0 rfl
    have x0 := (HD.out.below b1).cell 0 rfl
    have x1 := (HD.out.below b1).cell 1 rfl
    obtain ⟨_, _, _, e1, _, cr, _, _, er⟩ := (HR.out.below B1.out).at ha
    simp only [Option.some.injEq, Addr.mk.injEq, and_true] at e1
    obtain ⟨rfl, rfl⟩ := e1
    rw [ea.out] at er
    obtain rfl := Option.some.inj er.out
    clear b1 y0 y1 hz
    go_wp2_with fail
    go_ret
    exact ⟨false, rfl, N.out, B1.out⟩
  · have qz : (r0 == 0) = false := by simp [hz]
    have RA0 := Lib.hid (show R.getD a 0 ≠ 0 by rw [ra0]; exact hz)
    go_enter Try.func39, Try.ntmps39
    go_wp2_with fail
    refine V.out.mono ?_
    rintro e w1 ⟨rfl, b1⟩
    have B1 := Lib.hid (bel_trans B0.out b1)
    have C1 := Lib.hid (HC.out.below b1)
    have D1 := Lib.hid (HD.out.below b1)
    have z0 := C1.out.cell 0 rfl
    have x0 := D1.out.cell 0 rfl
    have x1 := D1.out.cell 1 rfl
    obtain ⟨_, _, _, e1, _, cr, _, _, er⟩ := (HR.out.below B1.out).at ha
    simp only [Option.some.injEq, Addr.mk.injEq, and_true] at e1
    obtain ⟨rfl, rfl⟩ := e1
    have er' := er.out
    rw [ea.out] at er'
    obtain rfl := Option.some.inj er'
    clear b1 y0 y1 hz er er'
    go_wp2_with fail
    go_loopw [46] (fun t wr => ∃ i : Nat, i ≤ n ∧ t = .int .i64 i ∧ Hid (∀ i', i' < i → RowR n R Y i') ∧ Below w1.heap.size w1 wr) (fun t _ => n - (intOf t).toNat)
    case atStart => exact ⟨0, Nat.zero_le _, rfl, fun i h => absurd h (by omega), Below.refl _ _⟩
    case round =>
      obtain ⟨i, hi, rfl, RW, hb⟩ := hrel
      have HB := Lib.hid hb
      have B2 := Lib.hid (bel_trans B1.out hb)
      have C2 := Lib.hid (C1.out.below hb)
      have D2 := Lib.hid (D1.out.below hb)
      clear hb z0 x0 x1 cr
      by_cases hlt : i < n
      · have d0 := decide_eq_true (show (i : Int) < (n : Int) by omega)
        have i0 : (0 : Int) ≤ (i : Int) := by omega
        have i1 : (i : Int) < (n : Int) := by omega
        obtain ⟨_, _, ri, e1, _, cr, _, _, er⟩ := (HR.out.below B2.out).at hlt
        simp only [Option.some.injEq, Addr.mk.injEq, and_true] at e1
        obtain ⟨rfl, rfl⟩ := e1
        obtain ⟨_, _, yi, e1, ybl, cy, _, _, ey⟩ := (HY.out.below B2.out).at hlt
        simp only [Option.some.injEq, Addr.mk.injEq, and_true] at e1
        obtain ⟨rfl, rfl⟩ := e1
        have GR := Lib.hid (getD_at er.out)
        have GY := Lib.hid (getD_at ey.out)
        have SS := Lib.hid (fun (W : World) (hW : Below wr.heap.size wr W) => (show Below wr.heap.size wr W ∧ W.cell? ⟨w.heap.size, 0, none⟩ = some (.int .i64 n) ∧ W.cell? ⟨w.heap.size + 1, 1, none⟩ = some (.slice (some ⟨yb, yo, none⟩) n yc) ∧ W.cell? ⟨yb, yo + i, none⟩ = some (.int .i64 yi) from ⟨hW, (C2.out.below hW).cell 0 rfl, (D2.out.below hW).cell 1 rfl, (hW.cell (p := ⟨yb, yo + i, none⟩) ybl).trans cy⟩))
        have ew : IntKind.i64.wrap ((n : Int) - 1) = (n : Int) - 1 := IntWalk.i64_in _ (by omega)
        have W1 := Lib.hid (fun W (hW : Below wr.heap.size wr W) => (show Calls Try.prog 88 #[.int .i64 ri, .int .i64 0, .int .i64 n] W fun e w' => e = .returned (.bool (inR ri 0 n)) ∧ Below W.heap.size W w' from (within_any ri 0 n W).mono fun e w' hh => ⟨hh.1, hh.2 ▸ Below.refl _ _⟩))
        have W2 := Lib.hid (fun W (hW : Below wr.heap.size wr W) => (show Calls Try.prog 88 #[.int .i64 yi, .int .i64 (-1), .int .i64 ((n : Int) - 1)] W fun e w' => e = .returned (.bool (inR yi (-1) ((n : Int) - 1))) ∧ Below W.heap.size W w' from (within_any yi (-1) ((n : Int) - 1) W).mono fun e w' hh => ⟨hh.1, hh.2 ▸ Below.refl _ _⟩))
        have NR := Lib.hid (fun (hn : ¬ RowR n R Y i) => NO.out fun s => hn (s.row i hlt))
        have x0 := D2.out.cell 0 rfl
        cases v1 : inR ri 0 n
        · rw [v1] at W1
          have N := Lib.hid (NR.out fun r => by have := inR_true.2 (show 0 ≤ ri ∧ ri ≤ (n : Int) from by have := r.1; rw [GR.out] at this; exact this); rw [v1] at this; exact absurd this (by simp))
          clear v1 er ey cy
          go_wp2_with fail
          refine wp_region_noPanic ?_
          refine wp_region_R (inFirst (fun W => Below wr.heap.size wr W ∧ W.cell? ⟨w.heap.size, 0, none⟩ = some (.int .i64 n) ∧ W.cell? ⟨w.heap.size + 1, 1, none⟩ = some (.slice (some ⟨yb, yo, none⟩) n yc) ∧ W.cell? ⟨yb, yo + i, none⟩ = some (.int .i64 yi)) 17) (by kernel_rfl) ?_
          have hS := SS.out wr.drew ⟨rfl, rfl, rfl, Nat.le_refl _, fun _ _ => rfl⟩
          refine anyR_take (i := 0) (.int .i64 ri) rfl (by kernel_rfl) (by kernel_rfl) (by kernel_rfl) (by kernel_rfl) (fun _ _ _ h => h) (by assumption) ⟨by rfl, ?_⟩ ?_
          · intro W hW
            go_simp
          try simp only [Act.put, List.setIfInBounds_toArray, List.set_cons_zero, List.set_cons_succ, List.getElem_toArray, List.getElem_cons_zero, List.getElem_cons_succ]
          refine anyR_take (i := 1) (.pointer (some ⟨w.heap.size, 0, none⟩)) rfl (by kernel_rfl) (by kernel_rfl) (by kernel_rfl) (by kernel_rfl) (fun _ _ _ h => h) (by assumption) ⟨by rfl, ?_⟩ ?_
          · intro W hW
            go_simp
          try simp only [Act.put, List.setIfInBounds_toArray, List.set_cons_zero, List.set_cons_succ, List.getElem_toArray, List.getElem_cons_zero, List.getElem_cons_succ]
          refine anyR_take (i := 2) (.int .i64 n) rfl (by kernel_rfl) (by kernel_rfl) (by kernel_rfl) (by kernel_rfl) (fun _ _ _ h => h) (by assumption) ⟨by rfl, ?_⟩ ?_
          · intro W hW
            go_simp
          try simp only [Act.put, List.setIfInBounds_toArray, List.set_cons_zero, List.set_cons_succ, List.getElem_toArray, List.getElem_cons_zero, List.getElem_cons_succ]
          refine anyR_one (i := 3) (by kernel_rfl) rfl ?_
          intro K hK
          go_simp
          go_at_call 88
          refine (W1.out _ hS.1).mono ?_
          rintro e w9 ⟨rfl, b9⟩
          have hT := SS.out w9 (bel_trans hS.1 b9)
          refine hK.out _ _ (fun _ => hT) ?_
          clear hS b9
          have hS := hT
          clear hT
          clear hK K
          try simp only [Act.put, List.setIfInBounds_toArray, List.set_cons_zero, List.set_cons_succ, List.getElem_toArray, List.getElem_cons_zero, List.getElem_cons_succ]
          refine anyR_take (i := 4) (.bool true) rfl (by kernel_rfl) (by kernel_rfl) (by kernel_rfl) (by kernel_rfl) (fun _ _ _ h => h) (by assumption) ⟨by rfl, ?_⟩ ?_
          · intro W hW
            go_simp
          try simp only [Act.put, List.setIfInBounds_toArray, List.set_cons_zero, List.set_cons_succ, List.getElem_toArray, List.getElem_cons_zero, List.getElem_cons_succ]
          refine anyR_take (i := 5) (.bool true) rfl (by kernel_rfl) (by kernel_rfl) (by kernel_rfl) (by kernel_rfl) (fun _ _ _ h => h) (by assumption) ⟨by rfl, ?_⟩ ?_
          · intro W hW
            go_simp
          try simp only [Act.put, List.setIfInBounds_toArray, List.set_cons_zero, List.set_cons_succ, List.getElem_toArray, List.getElem_cons_zero, List.getElem_cons_succ]
          refine anyR_skip (i := 6) rfl (by kernel_rfl) (by kernel_rfl) (by kernel_rfl) (by kernel_rfl) (fun _ _ _ h => h) (by assumption) (by rfl) ?_
          try simp only [Act.put, List.setIfInBounds_toArray, List.set_cons_zero, List.set_cons_succ, List.getElem_toArray, List.getElem_cons_zero, List.getElem_cons_succ]
          refine anyR_skip (i := 7) rfl (by kernel_rfl) (by kernel_rfl) (by kernel_rfl) (by kernel_rfl) (fun _ _ _ h => h) (by assumption) (by rfl) ?_
          try simp only [Act.put, List.setIfInBounds_toArray, List.set_cons_zero, List.set_cons_succ, List.getElem_toArray, List.getElem_cons_zero, List.getElem_cons_succ]
          refine anyR_skip (i := 8) rfl (by kernel_rfl) (by kernel_rfl) (by kernel_rfl) (by kernel_rfl) (fun _ _ _ h => h) (by assumption) (by rfl) ?_
          try simp only [Act.put, List.setIfInBounds_toArray, List.set_cons_zero, List.set_cons_succ, List.getElem_toArray, List.getElem_cons_zero, List.getElem_cons_succ]
          refine anyR_skip (i := 9) rfl (by kernel_rfl) (by kernel_rfl) (by kernel_rfl) (by kernel_rfl) (fun _ _ _ h => h) (by assumption) (by rfl) ?_
          try simp only [Act.put, List.setIfInBounds_toArray, List.set_cons_zero, List.set_cons_succ, List.getElem_toArray, List.getElem_cons_zero, List.getElem_cons_succ]
          refine anyR_skip (i := 10) rfl (by kernel_rfl) (by kernel_rfl) (by kernel_rfl) (by kernel_rfl) (fun _ _ _ h => h) (by assumption) (by rfl) ?_
          try simp only [Act.put, List.setIfInBounds_toArray, List.set_cons_zero, List.set_cons_succ, List.getElem_toArray, List.getElem_cons_zero, List.getElem_cons_succ]
          refine anyR_skip (i := 11) rfl (by kernel_rfl) (by kernel_rfl) (by kernel_rfl) (by kernel_rfl) (fun _ _ _ h => h) (by assumption) (by rfl) ?_
          try simp only [Act.put, List.setIfInBounds_toArray, List.set_cons_zero, List.set_cons_succ, List.getElem_toArray, List.getElem_cons_zero, List.getElem_cons_succ]
          refine anyR_skip (i := 12) rfl (by kernel_rfl) (by kernel_rfl) (by kernel_rfl) (by kernel_rfl) (fun _ _ _ h => h) (by assumption) (by rfl) ?_
          try simp only [Act.put, List.setIfInBounds_toArray, List.set_cons_zero, List.set_cons_succ, List.getElem_toArray, List.getElem_cons_zero, List.getElem_cons_succ]
          refine anyR_skip (i := 13) rfl (by kernel_rfl) (by kernel_rfl) (by kernel_rfl) (by kernel_rfl) (fun _ _ _ h => h) (by assumption) (by rfl) ?_
          try simp only [Act.put, List.setIfInBounds_toArray, List.set_cons_zero, List.set_cons_succ, List.getElem_toArray, List.getElem_cons_zero, List.getElem_cons_succ]
          refine anyR_skip (i := 14) rfl (by kernel_rfl) (by kernel_rfl) (by kernel_rfl) (by kernel_rfl) (fun _ _ _ h => h) (by assumption) (by rfl) ?_
          try simp only [Act.put, List.setIfInBounds_toArray, List.set_cons_zero, List.set_cons_succ, List.getElem_toArray, List.getElem_cons_zero, List.getElem_cons_succ]
          refine anyR_skip (i := 15) rfl (by kernel_rfl) (by kernel_rfl) (by kernel_rfl) (by kernel_rfl) (fun _ _ _ h => h) (by assumption) (by rfl) ?_
          try simp only [Act.put, List.setIfInBounds_toArray, List.set_cons_zero, List.set_cons_succ, List.getElem_toArray, List.getElem_cons_zero, List.getElem_cons_succ]
          refine anyR_take (i := 16) (.bool true) rfl (by kernel_rfl) (by kernel_rfl) (by kernel_rfl) (by kernel_rfl) (fun _ _ _ h => h) (by assumption) ⟨by rfl, ?_⟩ ?_
          · intro W hW
            go_simp
          try simp only [Act.put, List.setIfInBounds_toArray, List.set_cons_zero, List.set_cons_succ, List.getElem_toArray, List.getElem_cons_zero, List.getElem_cons_succ]
          refine anyR_done (by kernel_rfl) ?_ _
          refine NoPanic.normal ?_
          have BE := Lib.hid (bel_trans B2.out hS.1)
          clear hS SS
          go_wp2_with fail
          go_ret
          exact ⟨false, rfl, N.out, BE.out⟩
        · rw [v1] at W1
          cases v2 : inR yi (-1) ((n : Int) - 1)
          · rw [v2] at W2
            have N := Lib.hid (NR.out fun r => by have := inR_true.2 (show -1 ≤ yi ∧ yi ≤ (n : Int) - 1 from by have := r.2; rw [GY.out] at this; exact this); rw [v2] at this; exact absurd this (by simp))
            clear v1 v2 er ey cy
            go_wp2_with fail
            refine wp_region_noPanic ?_
            refine wp_region_R (inFirst (fun W => Below wr.heap.size wr W ∧ W.cell? ⟨w.heap.size, 0, none⟩ = some (.int .i64 n) ∧ W.cell? ⟨w.heap.size + 1, 1, none⟩ = some (.slice (some ⟨yb, yo, none⟩) n yc) ∧ W.cell? ⟨yb, yo + i, none⟩ = some (.int .i64 yi)) 17) (by kernel_rfl) ?_
            have hS := SS.out wr.drew ⟨rfl, rfl, rfl, Nat.le_refl _, fun _ _ => rfl⟩
            refine anyR_take (i := 0) (.int .i64 ri) rfl (by kernel_rfl) (by kernel_rfl) (by kernel_rfl) (by kernel_rfl) (fun _ _ _ h => h) (by assumption) ⟨by rfl, ?_⟩ ?_
            · intro W hW
              go_simp
            try simp only [Act.put, List.setIfInBounds_toArray, List.set_cons_zero, List.set_cons_succ, List.getElem_toArray, List.getElem_cons_zero, List.getElem_cons_succ]
            refine anyR_take (i := 1) (.pointer (some ⟨w.heap.size, 0, none⟩)) rfl (by kernel_rfl) (by kernel_rfl) (by kernel_rfl) (by kernel_rfl) (fun _ _ _ h => h) (by assumption) ⟨by rfl, ?_⟩ ?_
            · intro W hW
              go_simp
            try simp only [Act.put, List.setIfInBounds_toArray, List.set_cons_zero, List.set_cons_succ, List.getElem_toArray, List.getElem_cons_zero, List.getElem_cons_succ]
            refine anyR_take (i := 2) (.int .i64 n) rfl (by kernel_rfl) (by kernel_rfl) (by kernel_rfl) (by kernel_rfl) (fun _ _ _ h => h) (by assumption) ⟨by rfl, ?_⟩ ?_
            · intro W hW
              go_simp
            try simp only [Act.put, List.setIfInBounds_toArray, List.set_cons_zero, List.set_cons_succ, List.getElem_toArray, List.getElem_cons_zero, List.getElem_cons_succ]
            refine anyR_one (i := 3) (by kernel_rfl) rfl ?_
            intro K hK
            go_simp
            go_at_call 88
            refine (W1.out _ hS.1).mono ?_
            rintro e w9 ⟨rfl, b9⟩
            have hT := SS.out w9 (bel_trans hS.1 b9)
            refine hK.out _ _ (fun _ => hT) ?_
            clear hS b9
            have hS := hT
            clear hT
            clear hK K
            try simp only [Act.put, List.setIfInBounds_toArray, List.set_cons_zero, List.set_cons_succ, List.getElem_toArray, List.getElem_cons_zero, List.getElem_cons_succ]
            refine anyR_take (i := 4) (.bool false) rfl (by kernel_rfl) (by kernel_rfl) (by kernel_rfl) (by kernel_rfl) (fun _ _ _ h => h) (by assumption) ⟨by rfl, ?_⟩ ?_
            · intro W hW
              go_simp
            try simp only [Act.put, List.setIfInBounds_toArray, List.set_cons_zero, List.set_cons_succ, List.getElem_toArray, List.getElem_cons_zero, List.getElem_cons_succ]
            refine anyR_take (i := 5) (.bool false) rfl (by kernel_rfl) (by kernel_rfl) (by kernel_rfl) (by kernel_rfl) (fun _ _ _ h => h) (by assumption) ⟨by rfl, ?_⟩ ?_
            · intro W hW
              go_simp
            try simp only [Act.put, List.setIfInBounds_toArray, List.set_cons_zero, List.set_cons_succ, List.getElem_toArray, List.getElem_cons_zero, List.getElem_cons_succ]
            refine anyR_take (i := 6) (.pointer (some ⟨w.heap.size + 1, 1, none⟩)) rfl (by kernel_rfl) (by kernel_rfl) (by kernel_rfl) (by kernel_rfl) (fun _ _ _ h => h) (by assumption) ⟨by rfl, ?_⟩ ?_
            · intro W hW
              go_simp
            try simp only [Act.put, List.setIfInBounds_toArray, List.set_cons_zero, List.set_cons_succ, List.getElem_toArray, List.getElem_cons_zero, List.getElem_cons_succ]
            refine anyR_take (i := 7) (.slice (some ⟨yb, yo, none⟩) n yc) rfl (by kernel_rfl) (by kernel_rfl) (by kernel_rfl) (by kernel_rfl) (fun _ _ _ h => h) (by assumption) ⟨by rfl, ?_⟩ ?_
            · intro W hW
              go_simp
            try simp only [Act.put, List.setIfInBounds_toArray, List.set_cons_zero, List.set_cons_succ, List.getElem_toArray, List.getElem_cons_zero, List.getElem_cons_succ]
            refine anyR_take (i := 8) (.int .i64 i) rfl (by kernel_rfl) (by kernel_rfl) (by kernel_rfl) (by kernel_rfl) (fun _ _ _ h => h) (by assumption) ⟨by rfl, ?_⟩ ?_
            · intro W hW
              go_simp
            try simp only [Act.put, List.setIfInBounds_toArray, List.set_cons_zero, List.set_cons_succ, List.getElem_toArray, List.getElem_cons_zero, List.getElem_cons_succ]
            refine anyR_take (i := 9) (.pointer (some ⟨yb, yo + i, none⟩)) rfl (by kernel_rfl) (by kernel_rfl) (by kernel_rfl) (by kernel_rfl) (fun _ _ _ h => h) (by assumption) ⟨by rfl, ?_⟩ ?_
            · intro W hW
              go_simp
            try simp only [Act.put, List.setIfInBounds_toArray, List.set_cons_zero, List.set_cons_succ, List.getElem_toArray, List.getElem_cons_zero, List.getElem_cons_succ]
            refine anyR_take (i := 10) (.int .i64 yi) rfl (by kernel_rfl) (by kernel_rfl) (by kernel_rfl) (by kernel_rfl) (fun _ _ _ h => h) (by assumption) ⟨by rfl, ?_⟩ ?_
            · intro W hW
              go_simp
            try simp only [Act.put, List.setIfInBounds_toArray, List.set_cons_zero, List.set_cons_succ, List.getElem_toArray, List.getElem_cons_zero, List.getElem_cons_succ]
            refine anyR_take (i := 11) (.pointer (some ⟨w.heap.size, 0, none⟩)) rfl (by kernel_rfl) (by kernel_rfl) (by kernel_rfl) (by kernel_rfl) (fun _ _ _ h => h) (by assumption) ⟨by rfl, ?_⟩ ?_
            · intro W hW
              go_simp
            try simp only [Act.put, List.setIfInBounds_toArray, List.set_cons_zero, List.set_cons_succ, List.getElem_toArray, List.getElem_cons_zero, List.getElem_cons_succ]
            refine anyR_take (i := 12) (.int .i64 n) rfl (by kernel_rfl) (by kernel_rfl) (by kernel_rfl) (by kernel_rfl) (fun _ _ _ h => h) (by assumption) ⟨by rfl, ?_⟩ ?_
            · intro W hW
              go_simp
            try simp only [Act.put, List.setIfInBounds_toArray, List.set_cons_zero, List.set_cons_succ, List.getElem_toArray, List.getElem_cons_zero, List.getElem_cons_succ]
            refine anyR_take (i := 13) (.int .i64 ((n : Int) - 1)) rfl (by kernel_rfl) (by kernel_rfl) (by kernel_rfl) (by kernel_rfl) (fun _ _ _ h => h) (by assumption) ⟨by rfl, ?_⟩ ?_
            · intro W hW
              go_simp
            try simp only [Act.put, List.setIfInBounds_toArray, List.set_cons_zero, List.set_cons_succ, List.getElem_toArray, List.getElem_cons_zero, List.getElem_cons_succ]
            refine anyR_one (i := 14) (by kernel_rfl) rfl ?_
            intro K hK
            go_simp
            go_at_call 88
            refine (W2.out _ hS.1).mono ?_
            rintro e w9 ⟨rfl, b9⟩
            have hT := SS.out w9 (bel_trans hS.1 b9)
            refine hK.out _ _ (fun _ => hT) ?_
            clear hS b9
            have hS := hT
            clear hT
            clear hK K
            try simp only [Act.put, List.setIfInBounds_toArray, List.set_cons_zero, List.set_cons_succ, List.getElem_toArray, List.getElem_cons_zero, List.getElem_cons_succ]
            refine anyR_take (i := 15) (.bool true) rfl (by kernel_rfl) (by kernel_rfl) (by kernel_rfl) (by kernel_rfl) (fun _ _ _ h => h) (by assumption) ⟨by rfl, ?_⟩ ?_
            · intro W hW
              go_simp
            try simp only [Act.put, List.setIfInBounds_toArray, List.set_cons_zero, List.set_cons_succ, List.getElem_toArray, List.getElem_cons_zero, List.getElem_cons_succ]
            refine anyR_take (i := 16) (.bool true) rfl (by kernel_rfl) (by kernel_rfl) (by kernel_rfl) (by kernel_rfl) (fun _ _ _ h => h) (by assumption) ⟨by rfl, ?_⟩ ?_
            · intro W hW
              go_simp
            try simp only [Act.put, List.setIfInBounds_toArray, List.set_cons_zero, List.set_cons_succ, List.getElem_toArray, List.getElem_cons_zero, List.getElem_cons_succ]
            refine anyR_done (by kernel_rfl) ?_ _
            refine NoPanic.normal ?_
            have BE := Lib.hid (bel_trans B2.out hS.1)
            clear hS SS
            go_wp2_with fail
            go_ret
            exact ⟨false, rfl, N.out, BE.out⟩
          · rw [v2] at W2
            have RN := Lib.hid (fun i' (hi' : i' < i + 1) => (show RowR n R Y i' from by
              by_cases e : i' < i
              · exact RW.out i' e
              · have : i' = i := by omega
                subst this
                exact ⟨by rw [GR.out]; exact inR_true.1 v1, by rw [GY.out]; exact inR_true.1 v2⟩))
            clear v1 v2 er ey cy
            go_wp2_with fail
            refine wp_region_noPanic ?_
            refine wp_region_R (inFirst (fun W => Below wr.heap.size wr W ∧ W.cell? ⟨w.heap.size, 0, none⟩ = some (.int .i64 n) ∧ W.cell? ⟨w.heap.size + 1, 1, none⟩ = some (.slice (some ⟨yb, yo, none⟩) n yc) ∧ W.cell? ⟨yb, yo + i, none⟩ = some (.int .i64 yi)) 17) (by kernel_rfl) ?_
            have hS := SS.out wr.drew ⟨rfl, rfl, rfl, Nat.le_refl _, fun _ _ => rfl⟩
            refine anyR_take (i := 0) (.int .i64 ri) rfl (by kernel_rfl) (by kernel_rfl) (by kernel_rfl) (by kernel_rfl) (fun _ _ _ h => h) (by assumption) ⟨by rfl, ?_⟩ ?_
            · intro W hW
              go_simp
            try simp only [Act.put, List.setIfInBounds_toArray, List.set_cons_zero, List.set_cons_succ, List.getElem_toArray, List.getElem_cons_zero, List.getElem_cons_succ]
            refine anyR_take (i := 1) (.pointer (some ⟨w.heap.size, 0, none⟩)) rfl (by kernel_rfl) (by kernel_rfl) (by kernel_rfl) (by kernel_rfl) (fun _ _ _ h => h) (by assumption) ⟨by rfl, ?_⟩ ?_
            · intro W hW
              go_simp
            try simp only [Act.put, List.setIfInBounds_toArray, List.set_cons_zero, List.set_cons_succ, List.getElem_toArray, List.getElem_cons_zero, List.getElem_cons_succ]
            refine anyR_take (i := 2) (.int .i64 n) rfl (by kernel_rfl) (by kernel_rfl) (by kernel_rfl) (by kernel_rfl) (fun _ _ _ h => h) (by assumption) ⟨by rfl, ?_⟩ ?_
            · intro W hW
              go_simp
            try simp only [Act.put, List.setIfInBounds_toArray, List.set_cons_zero, List.set_cons_succ, List.getElem_toArray, List.getElem_cons_zero, List.getElem_cons_succ]
            refine anyR_one (i := 3) (by kernel_rfl) rfl ?_
            intro K hK
            go_simp
            go_at_call 88
            refine (W1.out _ hS.1).mono ?_
            rintro e w9 ⟨rfl, b9⟩
            have hT := SS.out w9 (bel_trans hS.1 b9)
            refine hK.out _ _ (fun _ => hT) ?_
            clear hS b9
            have hS := hT
            clear hT
            clear hK K
            try simp only [Act.put, List.setIfInBounds_toArray, List.set_cons_zero, List.set_cons_succ, List.getElem_toArray, List.getElem_cons_zero, List.getElem_cons_succ]
            refine anyR_take (i := 4) (.bool false) rfl (by kernel_rfl) (by kernel_rfl) (by kernel_rfl) (by kernel_rfl) (fun _ _ _ h => h) (by assumption) ⟨by rfl, ?_⟩ ?_
            · intro W hW
              go_simp
            try simp only [Act.put, List.setIfInBounds_toArray, List.set_cons_zero, List.set_cons_succ, List.getElem_toArray, List.getElem_cons_zero, List.getElem_cons_succ]
            refine anyR_take (i := 5) (.bool false) rfl (by kernel_rfl) (by kernel_rfl) (by kernel_rfl) (by kernel_rfl) (fun _ _ _ h => h) (by assumption) ⟨by rfl, ?_⟩ ?_
            · intro W hW
              go_simp
            try simp only [Act.put, List.setIfInBounds_toArray, List.set_cons_zero, List.set_cons_succ, List.getElem_toArray, List.getElem_cons_zero, List.getElem_cons_succ]
            refine anyR_take (i := 6) (.pointer (some ⟨w.heap.size + 1, 1, none⟩)) rfl (by kernel_rfl) (by kernel_rfl) (by kernel_rfl) (by kernel_rfl) (fun _ _ _ h => h) (by assumption) ⟨by rfl, ?_⟩ ?_
            · intro W hW
              go_simp
            try simp only [Act.put, List.setIfInBounds_toArray, List.set_cons_zero, List.set_cons_succ, List.getElem_toArray, List.getElem_cons_zero, List.getElem_cons_succ]
            refine anyR_take (i := 7) (.slice (some ⟨yb, yo, none⟩) n yc) rfl (by kernel_rfl) (by kernel_rfl) (by kernel_rfl) (by kernel_rfl) (fun _ _ _ h => h) (by assumption) ⟨by rfl, ?_⟩ ?_
            · intro W hW
              go_simp
            try simp only [Act.put, List.setIfInBounds_toArray, List.set_cons_zero, List.set_cons_succ, List.getElem_toArray, List.getElem_cons_zero, List.getElem_cons_succ]
            refine anyR_take (i := 8) (.int .i64 i) rfl (by kernel_rfl) (by kernel_rfl) (by kernel_rfl) (by kernel_rfl) (fun _ _ _ h => h) (by assumption) ⟨by rfl, ?_⟩ ?_
            · intro W hW
              go_simp
            try simp only [Act.put, List.setIfInBounds_toArray, List.set_cons_zero, List.set_cons_succ, List.getElem_toArray, List.getElem_cons_zero, List.getElem_cons_succ]
            refine anyR_take (i := 9) (.pointer (some ⟨yb, yo + i, none⟩)) rfl (by kernel_rfl) (by kernel_rfl) (by kernel_rfl) (by kernel_rfl) (fun _ _ _ h => h) (by assumption) ⟨by rfl, ?_⟩ ?_
            · intro W hW
              go_simp
            try simp only [Act.put, List.setIfInBounds_toArray, List.set_cons_zero, List.set_cons_succ, List.getElem_toArray, List.getElem_cons_zero, List.getElem_cons_succ]
            refine anyR_take (i := 10) (.int .i64 yi) rfl (by kernel_rfl) (by kernel_rfl) (by kernel_rfl) (by kernel_rfl) (fun _ _ _ h => h) (by assumption) ⟨by rfl, ?_⟩ ?_
            · intro W hW
              go_simp
            try simp only [Act.put, List.setIfInBounds_toArray, List.set_cons_zero, List.set_cons_succ, List.getElem_toArray, List.getElem_cons_zero, List.getElem_cons_succ]
            refine anyR_take (i := 11) (.pointer (some ⟨w.heap.size, 0, none⟩)) rfl (by kernel_rfl) (by kernel_rfl) (by kernel_rfl) (by kernel_rfl) (fun _ _ _ h => h) (by assumption) ⟨by rfl, ?_⟩ ?_
            · intro W hW
              go_simp
            try simp only [Act.put, List.setIfInBounds_toArray, List.set_cons_zero, List.set_cons_succ, List.getElem_toArray, List.getElem_cons_zero, List.getElem_cons_succ]
            refine anyR_take (i := 12) (.int .i64 n) rfl (by kernel_rfl) (by kernel_rfl) (by kernel_rfl) (by kernel_rfl) (fun _ _ _ h => h) (by assumption) ⟨by rfl, ?_⟩ ?_
            · intro W hW
              go_simp
            try simp only [Act.put, List.setIfInBounds_toArray, List.set_cons_zero, List.set_cons_succ, List.getElem_toArray, List.getElem_cons_zero, List.getElem_cons_succ]
            refine anyR_take (i := 13) (.int .i64 ((n : Int) - 1)) rfl (by kernel_rfl) (by kernel_rfl) (by kernel_rfl) (by kernel_rfl) (fun _ _ _ h => h) (by assumption) ⟨by rfl, ?_⟩ ?_
            · intro W hW
              go_simp
            try simp only [Act.put, List.setIfInBounds_toArray, List.set_cons_zero, List.set_cons_succ, List.getElem_toArray, List.getElem_cons_zero, List.getElem_cons_succ]
            refine anyR_one (i := 14) (by kernel_rfl) rfl ?_
            intro K hK
            go_simp
            go_at_call 88
            refine (W2.out _ hS.1).mono ?_
            rintro e w9 ⟨rfl, b9⟩
            have hT := SS.out w9 (bel_trans hS.1 b9)
            refine hK.out _ _ (fun _ => hT) ?_
            clear hS b9
            have hS := hT
            clear hT
            clear hK K
            try simp only [Act.put, List.setIfInBounds_toArray, List.set_cons_zero, List.set_cons_succ, List.getElem_toArray, List.getElem_cons_zero, List.getElem_cons_succ]
            refine anyR_take (i := 15) (.bool false) rfl (by kernel_rfl) (by kernel_rfl) (by kernel_rfl) (by kernel_rfl) (fun _ _ _ h => h) (by assumption) ⟨by rfl, ?_⟩ ?_
            · intro W hW
              go_simp
            try simp only [Act.put, List.setIfInBounds_toArray, List.set_cons_zero, List.set_cons_succ, List.getElem_toArray, List.getElem_cons_zero, List.getElem_cons_succ]
            refine anyR_take (i := 16) (.bool false) rfl (by kernel_rfl) (by kernel_rfl) (by kernel_rfl) (by kernel_rfl) (fun _ _ _ h => h) (by assumption) ⟨by rfl, ?_⟩ ?_
            · intro W hW
              go_simp
            try simp only [Act.put, List.setIfInBounds_toArray, List.set_cons_zero, List.set_cons_succ, List.getElem_toArray, List.getElem_cons_zero, List.getElem_cons_succ]
            refine anyR_done (by kernel_rfl) ?_ _
            refine NoPanic.normal ?_
            have BE := Lib.hid (bel_trans HB.out hS.1)
            clear hS SS
            go_wp2_with fail
            go_roundw
            case rel => exact ⟨i + 1, by omega, by go_num, RN.out, BE.out⟩
            case measure => simp [intOf]; omega
      · have d0 := decide_eq_false (show ¬ (i : Int) < (n : Int) by omega)
        have ROWS := Lib.hid (fun i' (hi' : i' < n) => RW.out i' (by omega))
        have z0 := C2.out.cell 0 rfl
        have z1 := C2.out.cell 1 rfl
        clear RW
        go_wp2_with fail
        refine (attackers_ok n es OK.out A m c _ (H.out.below B2.out)).mono ?_
        rintro e w3 ⟨AA, cA, rfl, oA, b3⟩
        have B3 := Lib.hid (bel_trans B2.out b3)
        have C3 := Lib.hid (C2.out.below b3)
        have D3 := Lib.hid (D2.out.below b3)
        have O3 := Lib.hid oA
        obtain ⟨gA, rfl, _, _⟩ := oA.form (by omega)
        have x0 := D3.out.cell 0 rfl
        clear b3 oA z0 z1 C2 D2 B2
        go_wp2_with fail
        clear x0
        go_loopw [74] (fun t wr => ∃ x : Nat, x ≤ n ∧ t = .int .i64 x ∧ Hid (∀ x', x' < x → ∀ y, (y, x') ∈ es → R.getD x' 0 ≠ 0 → GoodR es R Y x' y) ∧ Below w3.heap.size w3 wr) (fun t _ => n - (intOf t).toNat)
        case atStart => exact ⟨0, Nat.zero_le _, rfl, fun x h => absurd h (by omega), Below.refl _ _⟩
        case round =>
          obtain ⟨x, hx, rfl, RP, hb⟩ := hrel
          obtain ⟨wX, hwX⟩ : ∃ x, x = wr := ⟨_, rfl⟩
          subst hwX
          have HB3 := Lib.hid hb
          have B4 := Lib.hid (bel_trans B3.out hb)
          have C4 := Lib.hid (C3.out.below hb)
          have D4 := Lib.hid (D3.out.below hb)
          have O4 := Lib.hid (O3.out.below hb)
          clear hb
          by_cases hxn : x < n
          · have dx := decide_eq_true (show (x : Int) < (n : Int) by omega)
            have xx0 : (0 : Int) ≤ (x : Int) := by omega
            have xx1 : (x : Int) < (n : Int) := by omega
            obtain ⟨_, _, rx, e1, _, cr, _, _, er⟩ := (HR.out.below B4.out).at hxn
            simp only [Option.some.injEq, Addr.mk.injEq, and_true] at e1
            obtain ⟨rfl, rfl⟩ := e1
            have GX := Lib.hid (getD_at er.out)
            clear er
            by_cases hrx : rx = 0
            · have qx : (rx == 0) = true := by simp [hrx]
              have RP2 := Lib.hid (fun x' (hx' : x' < x + 1) y (hy : (y, x') ∈ es) (hr : R.getD x' 0 ≠ 0) => (show GoodR es R Y x' y from by
                by_cases e : x' < x
                · exact RP.out x' e y hy hr
                · have : x' = x := by omega
                  subst this
                  exact absurd hrx (by rw [← GX.out]; exact hr)))
              clear hrx
              go_wp2_with fail
              go_roundw
              case rel => exact ⟨x + 1, by omega, by go_num, RP2.out, HB3.out⟩
              case measure => simp [intOf]; omega
            · have qx : (rx == 0) = false := by simp [hrx]
              have ca := O4.out.cell (attL_at hxn (es := es))
              have SO := Lib.hid (setOf_any (attM es x) (attM_lt (n := 10) (fun p hp => by have := (OK.out.inn p hp).1; omega) x) wX)
              have L10 := bitsTo_len (attM es x) 10
              have LA := Lib.hid (fun (j : Nat) (z : Int) (hz : (bitsTo (attM es x) 10)[j]? = some z) => (show ∃ b : Nat, z = b ∧ (b, x) ∈ es from by
                obtain ⟨b, e, _, hb⟩ := bitsTo_mem.1 (mem_of_at hz)
                exact ⟨b, e, (attM_bit es x b).1 hb⟩))
              have LB := Lib.hid (fun b (hb : (b, x) ∈ es) => (show ((b : Nat) : Int) ∈ bitsTo (attM es x) 10 from bitsTo_mem.2 ⟨b, rfl, by have := (OK.out.inn _ hb).1; simp only at this; omega, (attM_bit es x b).2 hb⟩))
              obtain ⟨AM, hAM⟩ : ∃ v, attM es x = v := ⟨_, rfl⟩
              rw [hAM] at ca SO L10 LA LB
              obtain ⟨L, hL⟩ : ∃ l, bitsTo AM 10 = l := ⟨_, rfl⟩
              rw [hL] at SO L10 LA LB
              have HRX := Lib.hid (show R.getD x 0 ≠ 0 by rw [GX.out]; exact hrx)
              clear hrx hAM hL
              go_wp2_with fail
              refine SO.out.mono ?_
              rintro e w5 ⟨AL, cL, rfl, oL, b5⟩
              have OL := Lib.hid oL
              have B5 := Lib.hid b5
              clear oL b5 SO ca
              go_wp2_with fail
              go_loopw [87] (fun t wr => ∃ j : Nat, j ≤ L.length ∧ t = .int .i64 j ∧ Hid (∀ j', j' < j → ∀ b : Nat, L[j']? = some (b : Int) → GoodR es R Y x b) ∧ Below w5.heap.size w5 wr) (fun t _ => L.length - (intOf t).toNat)
              case atStart => exact ⟨0, Nat.zero_le _, rfl, fun x h => absurd h (by omega), Below.refl _ _⟩
              case round =>
                obtain ⟨j, hj, rfl, GJ, hb⟩ := hrel
                have B6 := Lib.hid (bel_trans B5.out hb)
                have BJ := Lib.hid hb
                have OL6 := Lib.hid (OL.out.below hb)
                clear hb
                have BT := Lib.hid (bel_trans B4.out B6.out)
                by_cases hjl : j < L.length
                · have dj := decide_eq_true (show (j : Int) < (L.length : Int) by omega)
                  have jj0 : (0 : Int) ≤ (j : Int) := by omega
                  have jj1 : (j : Int) < (L.length : Int) := by omega
                  obtain ⟨z, hz⟩ : ∃ z, L[j]? = some z := ⟨_, List.getElem?_eq_getElem hjl⟩
                  obtain ⟨b, rfl, hbx⟩ := LA.out j z hz
                  obtain ⟨lb, lo, rfl, cb⟩ := OL6.out.ints.get hz
                  have hbn := (OK.out.inn _ hbx).1
                  simp only at hbn
                  have bb0 : (0 : Int) ≤ (b : Int) := by omega
                  have bb1 : (b : Int) < (n : Int) := by omega
                  obtain ⟨_, _, zy, e1, _, cy, _, _, ey⟩ := (HY.out.below BT.out).at hbn
                  simp only [Option.some.injEq, Addr.mk.injEq, and_true] at e1
                  obtain ⟨rfl, rfl⟩ := e1
                  have GY := Lib.hid (getD_at ey.out)
                  have x0 := (D4.out.below B6.out).cell 0 rfl
                  have x1 := (D4.out.below B6.out).cell 1 rfl
                  have z0 := (C4.out.below B6.out).cell 0 rfl
                  have z1 := (C4.out.below B6.out).cell 1 rfl
                  have rbd := (ROWS.out b hbn).2
                  rw [GY.out] at rbd
                  have NG := Lib.hid (fun (hn : ¬ GoodR es R Y x b) => NO.out fun s => hn (s.rep x b hbx HRX.out))
                  have NX := Lib.hid (fun (hg : GoodR es R Y x b) => (show ∀ j', j' < j + 1 → ∀ b : Nat, L[j']? = some (b : Int) → GoodR es R Y x b from fun j' hj' b' hb' => by
                    by_cases e : j' < j
                    · exact GJ.out j' e b' hb'
                    · have : j' = j := by omega
                      subst this
                      rw [hz] at hb'
                      have : b' = b := by injection hb' with h; omega
                      exact this ▸ hg))
                  clear ey hz hbx
                  by_cases hzn : zy < 0
                  · have dz := decide_eq_true hzn
                    have N := Lib.hid (NG.out fun g => by have := g.1; rw [GY.out] at this; omega)
                    have BE := Lib.hid BT.out
                    clear NG NX
                    go_wp2_with fail
                    go_ret
                    exact ⟨false, rfl, N.out, BE.out⟩
                  · have dz := decide_eq_false hzn
                    obtain ⟨zn, rfl⟩ := Int.eq_ofNat_of_zero_le (show 0 ≤ zy by omega)
                    have znn : zn < n := by omega
                    have zz0 : (0 : Int) ≤ (zn : Int) := by omega
                    have zz1 : (zn : Int) < (n : Int) := by omega
                    have AC := Lib.hid (attacks_ok es n zn b A m c wr (H.out.below BT.out))
                    obtain ⟨_, _, rz, e1, rzl, crz, _, _, erz⟩ := (HR.out.below BT.out).at znn
                    simp only [Option.some.injEq, Addr.mk.injEq, and_true] at e1
                    obtain ⟨rfl, rfl⟩ := e1
                    have GZ := Lib.hid (getD_at erz.out)
                    have GG := Lib.hid (show GoodR es R Y x b ↔ (zn, b) ∈ es ∧ rz ≠ 0 ∧ rz < rx from by
                      unfold GoodR
                      rw [GY.out, GX.out, Int.toNat_natCast, GZ.out]
                      exact ⟨fun h => h.2, fun h => ⟨by omega, h⟩⟩)
                    obtain ⟨v, hv⟩ : ∃ v, attB es (zn : Int) (b : Int) = v := ⟨_, rfl⟩
                    rw [hv] at AC
                    clear erz
                    cases v
                    · have N := Lib.hid (NG.out fun g => by have := (attB_nat zn b).2 (GG.out.1 g).1; rw [hv] at this; exact absurd this (by simp))
                      clear NG NX hv hzn
                      go_wp2_with fail
                      refine AC.out.mono ?_
                      rintro e w7 ⟨rfl, u7⟩
                      have BE := Lib.hid (bel_trans BT.out u7)
                      clear u7
                      go_wp2_with fail
                      go_ret
                      exact ⟨false, rfl, N.out, BE.out⟩
                    · have hin := (attB_nat zn b).1 hv
                      by_cases hr0 : rz = 0
                      · have N := Lib.hid (NG.out fun g => (GG.out.1 g).2.1 hr0)
                        have q3 : (rz == 0) = true := by simp [hr0]
                        clear NG NX hv hzn hr0 hin
                        go_wp2_with fail
                        refine AC.out.mono ?_
                        rintro e w7 ⟨rfl, u7⟩
                        have BE := Lib.hid (bel_trans BT.out u7)
                        have x0' := ((D4.out.below B6.out).below u7).cell 0 rfl
                        have c7 := (u7.cell (p := ⟨rb, ro + zn, none⟩) rzl).trans crz
                        clear u7 x0 x1 z0 z1 crz
                        go_wp2_with fail
                        go_ret
                        exact ⟨false, rfl, N.out, BE.out⟩
                      · have q3 : (rz == 0) = false := by simp [hr0]
                        by_cases hlr : rz < rx
                        · have d4 := decide_eq_false (show ¬ rx ≤ rz by omega)
                          have NN := Lib.hid (NX.out (GG.out.2 ⟨hin, hr0, hlr⟩))
                          clear NG NX hv hzn hr0 hin hlr
                          go_wp2_with fail
                          refine AC.out.mono ?_
                          rintro e w7 ⟨rfl, u7⟩
                          have BE := Lib.hid (bel_trans BJ.out u7)
                          have x0' := ((D4.out.below B6.out).below u7).cell 0 rfl
                          have c7 := (u7.cell (p := ⟨rb, ro + zn, none⟩) rzl).trans crz
                          clear u7 x0 x1 z0 z1 crz
                          go_wp2_with fail
                          go_roundw
                          case rel => exact ⟨j + 1, by omega, by go_num, NN.out, BE.out⟩
                          case measure => simp [intOf]; omega
                        · have d4 := decide_eq_true (show rx ≤ rz by omega)
                          have N := Lib.hid (NG.out fun g => hlr (GG.out.1 g).2.2)
                          clear NG NX hv hzn hr0 hin hlr
                          go_wp2_with fail
                          refine AC.out.mono ?_
                          rintro e w7 ⟨rfl, u7⟩
                          have BE := Lib.hid (bel_trans BT.out u7)
                          have x0' := ((D4.out.below B6.out).below u7).cell 0 rfl
                          have c7 := (u7.cell (p := ⟨rb, ro + zn, none⟩) rzl).trans crz
                          clear u7 x0 x1 z0 z1 crz
                          go_wp2_with fail
                          go_ret
                          exact ⟨false, rfl, N.out, BE.out⟩
                · have dj := decide_eq_false (show ¬ (j : Int) < (L.length : Int) by omega)
                  have RP2 := Lib.hid (fun x' (hx' : x' < x + 1) y (hy : (y, x') ∈ es) (hr : R.getD x' 0 ≠ 0) => (show GoodR es R Y x' y from by
                    by_cases e : x' < x
                    · exact RP.out x' e y hy hr
                    · have : x' = x := by omega
                      subst this
                      obtain ⟨j', hj'⟩ := List.mem_iff_getElem?.1 (LB.out y hy)
                      exact GJ.out j' (by have := (List.getElem?_eq_some_iff.1 hj').1; omega) y hj'))
                  have BE := Lib.hid (bel_trans HB3.out B6.out)
                  go_wp2_with fail
                  go_roundw
                  case rel => exact ⟨x + 1, by omega, by go_num, RP2.out, BE.out⟩
                  case measure => simp [intOf]; omega
          · have dx := decide_eq_false (show ¬ (x : Int) < (n : Int) by omega)
            have YS := Lib.hid (show StrP n es a R Y from ⟨RL.out, YL.out, RA0.out, ROWS.out, fun x' y hy hr => RP.out x' (by have := (OK.out.inn _ hy).2; simp only at this; omega) y hy hr⟩)
            go_wp2_with fail
            go_ret
            exact ⟨true, rfl, ⟨fun _ => YS.out, fun _ => rfl⟩, B4.out⟩
theorem isStr_ok (n : Nat) (es : List (Nat × Nat)) (ok : FrOk n es) (a : Nat) (ha : a < n) (hv : (frB n (es.map erow) && inR a 0 ((n : Int) - 1)) = true) (A : Option Addr) (m c : Nat) (RA : Option Addr) (nr rc : Nat) (R : List Int) (YA : Option Addr) (ny yc : Nat) (Y : List Int) (w : World) (h : Rws w A m c (es.map erow)) (hR : Ints .i64 w RA nr rc R) (hY : Ints .i64 w YA ny yc Y) :
    Calls Try.prog 39 #[.agg #[.int .i64 n, .slice A m c], .int .i64 a, .agg #[.slice RA nr rc, .slice YA ny yc]] w fun e w' => ∃ b, e = .returned (.bool b) ∧ (b = true ↔ StrP n es a R Y) ∧ Below w.heap.size w w' := by
  by_cases h1 : nr = n
  · subst h1
    by_cases h2 : ny = nr
    · subst h2
      exact isStr_main ny es ok a ha hv A m c RA rc R YA yc Y w h hR hY
    · exact (isStr_len2 nr es ok a ha hv A m c RA rc R YA ny yc Y w h hR hY h2).mono fun e w' hh => ⟨false, hh.1, ⟨(fun e => absurd e (by simp)), fun s => absurd (hY.1.symm.trans s.ly) h2⟩, hh.2⟩
  · exact (isStr_len1 n es ok a ha hv A m c RA nr rc R YA ny yc Y w h hR hY h1).mono fun e w' hh => ⟨false, hh.1, ⟨(fun e => absurd e (by simp)), fun s => absurd (hR.1.symm.trans s.lr) h1⟩, hh.2⟩
end Go.Proofs.Yteejfjgofpolkaa
