/- The grounded set; a strategy that is found to be one; the one that is told. -/
import Derived.Test.YteejfjgofpolkaaStand
import Derived.Test.YteejfjgofpolkaaStrM
namespace Go.Proofs.Yteejfjgofpolkaa
set_option linter.unusedVariables false
set_option linter.unusedSimpArgs false
set_option maxRecDepth 100000
open Go.RowKit Go.Deep
theorem grd_bitD {n : Nat} {es : List (Nat × Nat)} (a : Nat) : (grdM n es).testBit a = true ↔ a < n ∧ 0 < rndF n es a := by
  unfold grdM accM
  rw [mk_bit, Bool.and_eq_true, decide_eq_true_eq, decide_eq_true_eq]
theorem grdSetD_ok (n : Nat) (es : List (Nat × Nat)) (ok : FrOk n es) (A : Option Addr) (m c : Nat) (w : World) (h : Rws w A m c (es.map erow)) :
    Calls Try.prog 37 #[.agg #[.int .i64 n, .slice A m c]] w fun e w' => ∃ A' c', e = .returned (.tuple #[.slice A' (bitsTo (grdM n es) 10).length c', .bool true]) ∧ OwnI w' w.heap.size A' (bitsTo (grdM n es) 10).length c' (bitsTo (grdM n es) 10) ∧ Below w.heap.size w w' := by
  have b0 := bel_alloc w (.cells #[.int .i64 n, .slice A m c] 26)
  have C0 := Cs.new w [.int .i64 n, .slice A m c] 26
  have y0 := C0.cell 0 rfl
  have y1 := C0.cell 1 rfl
  have V := Lib.hid (validFrame_any n (es.map erow) A m c _ (h.below b0))
  rw [frB_of ok] at V
  have OK := Lib.hid ok
  have HC := Lib.hid C0
  have H := Lib.hid h
  have B0 := Lib.hid b0
  have gl := grdM_lt ok
  clear h C0 b0 ok
  go_enter Try.func37, Try.ntmps37
  go_wp2_with fail
  refine V.out.mono ?_
  rintro e w1 ⟨rfl, b1⟩
  have C1 := Lib.hid (HC.out.below b1)
  have z0 := C1.out.cell 0 rfl
  have z1 := C1.out.cell 1 rfl
  have B1 := Lib.hid (bel_trans B0.out b1)
  clear y0 y1 b1 V
  go_wp2_with fail
  refine (grounded_ok n es OK.out A m c _ (H.out.below B1.out)).mono ?_
  rintro e w2 ⟨F, hF, rfl, b2⟩
  rw [grdM_eq OK.out hF]
  obtain ⟨g, hg⟩ : ∃ g, grdM n es = g := ⟨_, rfl⟩
  rw [hg] at gl ⊢
  have HG := Lib.hid hg
  have B2 := Lib.hid (bel_trans B1.out b2)
  clear hg b2 hF z0 z1
  go_wp2_with fail
  refine (setOf_any g gl _).mono ?_
  rintro e w3 ⟨A3, c3, rfl, o3, u3⟩
  have O := Lib.hid (o3.mono (b2 := w.heap.size) B2.out.size)
  have B3 := Lib.hid (bel_trans B2.out u3)
  clear o3 u3
  go_wp2_with fail
  exact bodyPost_ret (v := .tuple #[.slice A3 (bitsTo g 10).length c3, .bool true]) (by simp [results, Try.results37, go_sem]) rfl ⟨A3, c3, by rw [HG.out], by rw [HG.out]; exact O.out, B3.out⟩
theorem arg_yes {n x : Nat} {es : List (Nat × Nat)} (ok : FrOk n es) (hx : x < n) : (frB n (es.map erow) && inR (x : Int) 0 ((n : Int) - 1)) = true := by
  rw [frB_of ok, Bool.true_and]
  exact inR_true.2 ⟨by omega, by omega⟩
/-- Whatever is found to be a strategy is one for a grounded argument. -/
theorem isStr_sound (n : Nat) (es : List (Nat × Nat)) (ok : FrOk n es) (x : Int) (A : Option Addr) (m c : Nat) (RA : Option Addr) (nr rc : Nat) (R : List Int) (YA : Option Addr) (ny yc : Nat) (Y : List Int) (w : World) (h : Rws w A m c (es.map erow)) (hR : Ints .i64 w RA nr rc R) (hY : Ints .i64 w YA ny yc Y) :
    Calls Try.prog 39 #[.agg #[.int .i64 n, .slice A m c], .int .i64 x, .agg #[.slice RA nr rc, .slice YA ny yc]] w fun e w' => ∃ b, e = .returned (.bool b) ∧ (b = true → (bitsTo (grdM n es) 10).any (· == x) = true) ∧ Below w.heap.size w w' := by
  have n10 := ok.n10
  cases hv : (frB n (es.map erow) && inR x 0 ((n : Int) - 1))
  · exact (isStr_no n (by omega) (by omega) x (es.map erow) hv A m c _ _ w h).mono fun e w' hh => ⟨false, hh.1, fun h => absurd h (by simp), hh.2⟩
  · have hr := inR_true.1 (Bool.and_eq_true _ _ ▸ hv : _ ∧ _).2
    obtain ⟨a, rfl⟩ := Int.eq_ofNat_of_zero_le hr.1
    have ha : a < n := by omega
    refine (isStr_ok n es ok a ha hv A m c RA nr rc R YA ny yc Y w h hR hY).mono fun e w' hh => ?_
    obtain ⟨b, rfl, h1, h2⟩ := hh
    refine ⟨b, rfl, fun hb => ?_, h2⟩
    rw [bitsTo_has (by omega)]
    exact (grd_bitD a).2 ⟨ha, str_sound ok (rndF_fin ok) ha (h1.1 hb)⟩
theorem strat_yes (n : Nat) (es : List (Nat × Nat)) (ok : FrOk n es) (a : Nat) (ha : a < n) (hb : (grdM n es).testBit a = true) (A : Option Addr) (m c : Nat) (w : World) (h : Rws w A m c (es.map erow)) :
    Calls Try.prog 31 #[.agg #[.int .i64 n, .slice A m c], .int .i64 a] w fun e w' => ∃ RA c1 YA d1, e = .returned (.tuple #[.agg #[.slice RA n c1, .slice YA n d1], .bool true]) ∧ Ints .i64 w' RA n c1 (rkL n es a) ∧ Ints .i64 w' YA n d1 (rpL n es a) ∧ StrP n es a (rkL n es a) (rpL n es a) ∧ Below w.heap.size w w' := by
  refine (stratI_in n es ok a ha (arg_yes ok ha) hb A m c w h).mono fun e w' hh => ?_
  obtain ⟨RA, c1, YA, d1, rfl, o1, o2, _, b⟩ := hh
  have e1 : (rkL n es a).length = n := lst_len _ _
  have e2 : (rpL n es a).length = n := lst_len _ _
  rw [e1] at o1
  rw [e2] at o2
  refine ⟨RA, c1, YA, d1, by rw [e1, e2], o1.ints, o2.ints, ?_, b⟩
  exact str_told ok (rndF_fin ok) ha ((grd_bitD a).1 hb).2
theorem strat_no (n : Nat) (es : List (Nat × Nat)) (ok : FrOk n es) (a : Nat) (ha : a < n) (hb : (grdM n es).testBit a = false) (A : Option Addr) (m c : Nat) (w : World) (h : Rws w A m c (es.map erow)) :
    Calls Try.prog 31 #[.agg #[.int .i64 n, .slice A m c], .int .i64 a] w fun e w' => ∃ RA c1 YA d1, e = .returned (.tuple #[.agg #[.slice RA 0 c1, .slice YA 0 d1], .bool false]) ∧ Ints .i64 w' RA 0 c1 [] ∧ Ints .i64 w' YA 0 d1 [] ∧ Below w.heap.size w w' := by
  refine (stratI_out n es ok a ha (arg_yes ok ha) hb A m c w h).mono fun e w' hh => ?_
  obtain ⟨RA, c1, YA, d1, rfl, o1, o2, _, b⟩ := hh
  exact ⟨RA, c1, YA, d1, rfl, o1.ints, o2.ints, b⟩
/-- The discussion behind k moves: y has been said last. -/
structure DS (n : Nat) (es : List (Nat × Nat)) (x : Nat) (R Y M : List Int) (k y : Nat) : Prop where
  len : M.length = k
  last : lastD x Y M k = y
  all : ∀ i, i < k → OkD n es x Y M i
  yn : y < n
  ry : R.getD y 0 ≠ 0
  sum : R.getD y 0 + k ≤ R.getD x 0
section
variable {n : Nat} {es : List (Nat × Nat)} {x : Nat} {R Y M : List Int} {k y : Nat}
theorem getD_left {M : List Int} {m : Int} {j : Nat} (h : j < M.length) : (M ++ [m]).getD j 0 = M.getD j 0 := by
  rw [List.getD_eq_getElem?_getD, List.getElem?_append_left h, ← List.getD_eq_getElem?_getD]
theorem lastD_snoc (a : Int) (Y M : List Int) (m : Int) : ∀ j, j ≤ M.length → lastD a Y (M ++ [m]) j = lastD a Y M j
  | 0, _ => rfl
  | j + 1, h => by
    show Y.getD ((M ++ [m]).getD j 0).toNat 0 = Y.getD (M.getD j 0).toNat 0
    rw [getD_left (by omega)]
theorem getD_snoc (M : List Int) (m : Int) : (M ++ [m]).getD M.length 0 = m := by simp [List.getD_eq_getElem?_getD]
theorem DS.start (s : StrP n es x R Y) (hx : x < n) : DS n es x R Y [] 0 x := ⟨rfl, rfl, fun i h => by omega, hx, s.ra, by omega⟩
theorem DS.lt (h : DS n es x R Y M k y) (s : StrP n es x R Y) (hx : x < n) : k < n := by
  have h1 := (s.row x hx).1.2
  have h2 := (s.row y h.yn).1.1
  have h3 := h.ry
  have h4 := h.sum
  omega
theorem DS.disc (h : DS n es x R Y M k y) (s : StrP n es x R Y) (hx : x < n) (n10 : n ≤ 10) : DiscP n es x R Y M := by
  have := h.lt s hx
  exact ⟨s, by rw [h.len]; omega, fun i hi => h.all i (by rw [h.len] at hi; exact hi)⟩
theorem DS.next (h : DS n es x R Y M k y) (ok : FrOk n es) (s : StrP n es x R Y) {b : Nat} (he : (b, y) ∈ es) :
    ∃ z : Nat, DS n es x R Y (M ++ [(b : Int)]) (k + 1) z ∧ R.getD z 0 < R.getD y 0 ∧ 1 ≤ R.getD z 0 := by
  obtain ⟨z, h1, h2, h3, h4, h5⟩ := disc_next (a := x) (M := M) ok s h.yn h.ry he
  have hl := h.len
  have hg : (M ++ [(b : Int)]).getD k 0 = b := by rw [← hl]; exact getD_snoc M _
  refine ⟨z, ⟨by simp [hl], ?_, fun i hi => ?_, h2, h3, by have := h.sum; omega⟩, h5, h4⟩
  · show Y.getD ((M ++ [(b : Int)]).getD k 0).toNat 0 = z
    rw [hg, Int.toNat_natCast, h1]
  · unfold OkD
    rw [lastD_snoc _ _ _ _ i (by omega)]
    by_cases e : i < k
    · rw [getD_left (by omega)]
      exact h.all i e
    · have : i = k := by omega
      subst this
      rw [hg, h.last]
      have := (ok.inn _ he).1
      exact ⟨⟨by omega, by omega⟩, (attB_nat b y).2 he⟩
end
end Go.Proofs.Yteejfjgofpolkaa
