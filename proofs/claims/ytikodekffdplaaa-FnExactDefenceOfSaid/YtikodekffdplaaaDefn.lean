/- The smallest admissible set with an argument: the law of the best, the walks' helpers. -/
import Derived.Test.YtikodekffdplaaaSets
import Derived.Test.YtikodekffdplaaaGrf3
import Derived.Test.YtikodekffdplaaaPhase
import Derived.Lib.SliceRun
namespace Go.Proofs.Ytikodekffdplaaa
set_option linter.unusedVariables false
set_option linter.unusedSimpArgs false
set_option maxRecDepth 100000
open Go.RowKit Go.Deep
/-- z is better than y. -/
def Dlt (z y : List Int) : Prop := z.length < y.length ∨ (z.length = y.length ∧ cmpL z y < 0)
instance (z y : List Int) : Decidable (Dlt z y) := inferInstanceAs (Decidable (_ ∨ _))
theorem Dlt.trans {x y z : List Int} (h : Dlt x y) (k : Dlt y z) : Dlt x z := by
  unfold Dlt at *
  rcases h with h | ⟨h, h2⟩ <;> rcases k with k | ⟨k, k2⟩
  · exact .inl (by omega)
  · exact .inl (by omega)
  · exact .inl (by omega)
  · exact .inr ⟨by omega, cmpL_lt_trans h2 k2⟩
theorem Dlt.irrefl (x : List Int) : ¬ Dlt x x := by
  unfold Dlt
  rintro (h | ⟨_, h⟩)
  · omega
  · rw [cmpL_self] at h; omega
theorem Dlt.total {x y : List Int} (h : ¬ Dlt x y) (k : ¬ Dlt y x) : x = y := by
  unfold Dlt at *
  have e : x.length = y.length := by omega
  have h1 : ¬ cmpL x y < 0 := fun c => h (.inr ⟨e, c⟩)
  have h2 : ¬ cmpL y x < 0 := fun c => k (.inr ⟨e.symm, c⟩)
  have := cmpL_swap x y
  exact cmpL_eq (by omega)
/-- The best list so far. -/
def bestF (p : Nat → Bool) : Nat → List Int
  | 0 => []
  | k + 1 => if p k = true then (if bestF p k = [] ∨ Dlt (bitsTo k 10) (bestF p k) then bitsTo k 10 else bestF p k) else bestF p k
theorem bestF_no {p : Nat → Bool} {k : Nat} (h : p k = false) : bestF p (k + 1) = bestF p k := by simp [bestF, h]
theorem bestF_new {p : Nat → Bool} {k : Nat} (h : p k = true) (h2 : bestF p k = [] ∨ Dlt (bitsTo k 10) (bestF p k)) : bestF p (k + 1) = bitsTo k 10 := by simp only [bestF]; rw [if_pos h, if_pos h2]
theorem bestF_old {p : Nat → Bool} {k : Nat} (h : p k = true) (h2 : ¬ (bestF p k = [] ∨ Dlt (bitsTo k 10) (bestF p k))) : bestF p (k + 1) = bestF p k := by simp only [bestF]; rw [if_pos h, if_neg h2]
def BestK (p : Nat → Bool) (k : Nat) (zs : List Int) : Prop := (zs = [] ∧ ∀ m, m < k → p m = false) ∨ ∃ m, m < k ∧ p m = true ∧ zs = bitsTo m 10 ∧ ∀ o, o < k → p o = true → ¬ Dlt (bitsTo o 10) zs
theorem bestF_ok {p : Nat → Bool} (hne : ∀ m, p m = true → bitsTo m 10 ≠ []) : ∀ k, BestK p k (bestF p k)
  | 0 => .inl ⟨rfl, fun m h => absurd h (by omega)⟩
  | k + 1 => by
    have ih := bestF_ok hne k
    cases hp : p k
    · rw [bestF_no hp]
      rcases ih with ⟨e, h⟩ | ⟨m, h1, h2, h3, h4⟩
      · exact .inl ⟨e, fun m hm => by
          rcases Nat.lt_or_ge m k with h5 | h5
          · exact h m h5
          · obtain rfl : m = k := by omega
            exact hp⟩
      · exact .inr ⟨m, by omega, h2, h3, fun o ho hpo => by
          rcases Nat.lt_or_ge o k with h5 | h5
          · exact h4 o h5 hpo
          · obtain rfl : o = k := by omega
            rw [hp] at hpo; exact absurd hpo (by simp)⟩
    · by_cases hb : bestF p k = [] ∨ Dlt (bitsTo k 10) (bestF p k)
      · rw [bestF_new hp hb]
        refine .inr ⟨k, by omega, hp, rfl, fun o ho hpo => ?_⟩
        rcases Nat.lt_or_ge o k with h5 | h5
        · rcases ih with ⟨e, h⟩ | ⟨m, h1, h2, h3, h4⟩
          · rw [h o h5] at hpo; exact absurd hpo (by simp)
          · rcases hb with hb | hb
            · rw [h3] at hb; exact absurd hb (hne m h2)
            · exact fun c => h4 o h5 hpo (c.trans hb)
        · obtain rfl : o = k := by omega
          exact Dlt.irrefl _
      · rw [bestF_old hp hb]
        rcases ih with ⟨e, h⟩ | ⟨m, h1, h2, h3, h4⟩
        · exact absurd (.inl e) hb
        · exact .inr ⟨m, by omega, h2, h3, fun o ho hpo => by
            rcases Nat.lt_or_ge o k with h5 | h5
            · exact h4 o h5 hpo
            · obtain rfl : o = k := by omega
              exact fun c => hb (.inr c)⟩
theorem BestK.unique {p : Nat → Bool} {k : Nat} {x y : List Int} (h : BestK p k x) (g : BestK p k y) : x = y := by
  rcases h with ⟨rfl, h⟩ | ⟨m, h1, h2, rfl, h4⟩ <;> rcases g with ⟨rfl, g⟩ | ⟨o, g1, g2, rfl, g4⟩
  · rfl
  · rw [h o g1] at g2; exact absurd g2 (by simp)
  · rw [g m h1] at h2; exact absurd h2 (by simp)
  · exact Dlt.total (g4 m h1 h2) (h4 o g1 g2)
/-- The best of a list. -/
def BL (T : List (List Int)) (zs : List Int) : Prop := (T = [] ∧ zs = []) ∨ (zs ∈ T ∧ ∀ z ∈ T, ¬ Dlt z zs)
theorem BL.first {T : List (List Int)} {s : List Int} (h : T = []) : BL (T ++ [s]) s := by
  subst h
  exact .inr ⟨by simp, fun z hz => by simp at hz; subst hz; exact Dlt.irrefl _⟩
theorem BL.less {T : List (List Int)} {zs s : List Int} (h : BL T zs) (hl : s.length < zs.length) : BL (T ++ [s]) s := by
  refine .inr ⟨by simp, fun z hz => ?_⟩
  rcases List.mem_append.1 hz with hz | hz
  · rcases h with ⟨rfl, _⟩ | ⟨_, h2⟩
    · simp at hz
    · have := h2 z hz
      unfold Dlt at *
      omega
  · simp at hz; subst hz; exact Dlt.irrefl _
theorem BL.keep {T : List (List Int)} {zs s : List Int} (h : BL T zs) (hT : T ≠ []) (hl : ¬ s.length < zs.length) (ha : ∀ z ∈ T, cmpL z s ≤ 0) : BL (T ++ [s]) zs := by
  rcases h with ⟨rfl, _⟩ | ⟨h1, h2⟩
  · exact absurd rfl hT
  · refine .inr ⟨List.mem_append_left _ h1, fun z hz => ?_⟩
    rcases List.mem_append.1 hz with hz | hz
    · exact h2 z hz
    · simp at hz; subst hz
      have := ha zs h1
      have := cmpL_swap zs z
      unfold Dlt
      omega
theorem asc_take {S : List (List Int)} {j : Nat} {s : List Int} (h : Asc S) (hs : S[j]? = some s) : ∀ z ∈ S.take j, cmpL z s ≤ 0 := fun z hz => by
  obtain ⟨h1, h2⟩ := List.getElem?_eq_some_iff.1 hs
  obtain ⟨i, hi, rfl⟩ := List.mem_iff_getElem.1 hz
  rw [List.length_take] at hi
  rw [List.getElem_take, ← h2]
  exact List.pairwise_iff_getElem.1 h i j (by omega) h1 (by omega)
theorem BL.bestK {n : Nat} {p : Nat → Bool} {zs : List Int} (h : BL (srtL (bitsL (allM n p))) zs) : BestK p (2 ^ n) zs := by
  have mem : ∀ z, z ∈ srtL (bitsL (allM n p)) ↔ ∃ m, m < 2 ^ n ∧ p m = true ∧ z = bitsTo m 10 := fun z => by
    rw [(srtL_perm _).mem_iff]
    unfold bitsL
    rw [List.mem_map]
    exact ⟨fun ⟨m, h1, h2⟩ => ⟨m, (allM_mem.1 h1).1, (allM_mem.1 h1).2, h2.symm⟩, fun ⟨m, h1, h2, h3⟩ => ⟨m, allM_mem.2 ⟨h1, h2⟩, h3.symm⟩⟩
  rcases h with ⟨e, rfl⟩ | ⟨h1, h2⟩
  · refine .inl ⟨rfl, fun m hm => ?_⟩
    cases hp : p m
    · rfl
    · have := (mem (bitsTo m 10)).2 ⟨m, hm, hp, rfl⟩
      rw [e] at this
      simp at this
  · obtain ⟨m, a1, a2, a3⟩ := (mem zs).1 h1
    exact .inr ⟨m, a1, a2, a3, fun o ho hpo => h2 _ ((mem _).2 ⟨o, ho, hpo, rfl⟩)⟩
/-- Admissible and with a. -/
def defB (n : Nat) (es : List (Nat × Nat)) (a m : Nat) : Bool := m.testBit a && goodB n es m
theorem defB_ne {n : Nat} {es : List (Nat × Nat)} {a : Nat} (ha : a < 10) (m : Nat) (h : defB n es a m = true) : bitsTo m 10 ≠ [] := fun e => by
  unfold defB at h
  rw [Bool.and_eq_true] at h
  have : (a : Int) ∈ bitsTo m 10 := bitsTo_mem.2 ⟨a, rfl, ha, h.1⟩
  rw [e] at this
  simp at this
theorem isArg_yes {cnt x : Int} {rows : List (List Int)} (h : (frB cnt rows && inR x 0 (cnt - 1)) = true) : ∃ (n : Nat) (es : List (Nat × Nat)) (a : Nat), cnt = n ∧ rows = es.map erow ∧ FrOk n es ∧ x = a ∧ a < n := by
  rw [Bool.and_eq_true] at h
  obtain ⟨n, es, rfl, rfl, ok⟩ := frB_yes h.1
  have h2 := inR_true.1 h.2
  exact ⟨n, es, x.toNat, rfl, rfl, ok, by omega, by omega⟩
set_option maxHeartbeats 1000000 in
theorem masks_defn (n : Nat) (n10 : n ≤ 10) (pb pc : Value) (A : Option Addr) (m c : Nat) (p : Nat → Bool) (w : World)
   (hf : Hid (∀ x, x < 2 ^ n → ∀ wr, Below w.heap.size w wr → Calls Try.prog 50 #[.int .i64 (x : Nat), pb, pc] wr fun e w' => e = .returned (.bool (p x)) ∧ Below wr.heap.size wr w')) :
    Calls Try.prog 35 #[.agg #[.int .i64 n, .slice A m c], .func (.func 50) #[] #[pb, pc]] w fun e w' => ∃ A' c', e = .returned (.slice A' (nI (allM n p)).length c') ∧ OwnN w' w.heap.size A' (nI (allM n p)).length c' (nI (allM n p)) ∧ Below w.heap.size w w' := by
  have b0 := bel_alloc w (.cells #[.int .i64 n, .slice A m c] 28)
  have C0 := Cs.new w [.int .i64 n, .slice A m c] 28
  have b1 := bel_alloc (w.alloc (.cells #[.int .i64 n, .slice A m c] 28)) (.cells #[] 3)
  have y0 := C0.cell 0 rfl
  have z0 := (C0.below b1).cell 0 rfl
  have O0 := (ownN_lit (w.alloc (.cells #[.int .i64 n, .slice A m c] 28))).mono (b2 := w.heap.size) (by simp)
  have B0 := Lib.hid (bel_trans b0 b1)
  have h2p := two_pow_le n10
  have hsl := shl_wrap10 n10
  have mn0 : min n 64 = n := by omega
  have j0 : (0 : Int) ≤ (n : Int) := by omega
  have EN := Lib.hid (mL_all n p)
  obtain ⟨N, hN⟩ : ∃ r, 2 ^ n = r := ⟨_, rfl⟩
  rw [hN] at h2p EN hf hsl
  rw [show (w.alloc (.cells #[.int .i64 n, .slice A m c] 28)).heap.size = w.heap.size + 1 by simp] at O0
  have HO0 := Lib.hid O0
  clear hN C0 b0 b1 O0
  go_enter Try.func35, Try.ntmps35
  go_wp2_with fail
  clear y0 z0
  go_loopw [5, 11] (fun o t wr => ∃ (k : Nat) (A : Option Addr) (c : Nat), k ≤ N ∧ t = .int .i64 k ∧ o = .slice A (mL p k).length c ∧ OwnN wr w.heap.size A (mL p k).length c (mL p k) ∧ Below w.heap.size w wr) (fun _ t _ => N - (intOf t).toNat)
  case atStart => exact ⟨0, _, _, Nat.zero_le _, rfl, rfl, HO0.out, B0.out⟩
  case round =>
    obtain ⟨k, A, c, hk, rfl, rfl, hO, hB⟩ := hrel
    have HO := Lib.hid hO
    have HB := Lib.hid hB
    clear hO hB
    by_cases hlt : k < N
    · have hd : decide ((k : Int) < (N : Int)) = true := decide_eq_true (by omega)
      have hs := HB.out.size
      have hl := mL_len p k
      have CL := Lib.hid (hf.out k hlt wr HB.out)
      cases hp : p k
      · rw [hp] at CL
        have E := Lib.hid (mL_no hp)
        clear hp
        go_wp2_with fail
        refine CL.out.mono ?_
        rintro e w3 ⟨rfl, b3⟩
        have HO3 := Lib.hid (HO.out.below b3)
        have HB3 := Lib.hid (bel_trans HB.out b3)
        clear b3
        go_wp2_with fail
        go_roundw
        case rel => exact ⟨k + 1, A, c, by omega, by go_num, by rw [E.out], by rw [E.out]; exact HO3.out, HB3.out⟩
        case measure => simp [intOf]; omega
      · rw [hp] at CL
        have E := Lib.hid (mL_yes hp)
        clear hp
        go_wp2_with fail
        refine CL.out.mono ?_
        rintro e w3 ⟨rfl, b3⟩
        have HO3 := Lib.hid (HO.out.below b3)
        have HB3 := Lib.hid (bel_trans HB.out b3)
        have hs3 := HB3.out.size
        clear b3
        go_wp2_with (at_builtin; refine app_num_at w3 rfl _ _ rfl w.heap.size A (mL p k).length c (mL p k) rfl HO3.out (k : Int) (by omega) (by omega) rfl (by omega) hs3 ?_; intro A7 c7 w7 p1 p2 p3; have P1 := Lib.hid p1; have B7 := Lib.hid (HB3.out.grown p2 hs3 (fun x hx => (HO3.out.block x hx).1)); clear p1 p2 p3)
        go_roundw
        case rel => exact ⟨k + 1, A7, c7, by omega, by go_num, by rw [E.out]; simp, by rw [E.out]; simpa using P1.out, B7.out⟩
        case measure => simp [intOf]; omega
    · obtain rfl : k = N := by omega
      have hd : decide ((k : Int) < (k : Int)) = false := decide_eq_false (by omega)
      have OE : Hid (OwnN wr w.heap.size A (nI (allM n p)).length c (nI (allM n p))) := by show OwnN _ _ _ _ _ _; rw [← EN.out]; exact HO.out
      go_wp2_with fail
      go_ret
      exact ⟨A, c, by rw [EN.out]; rfl, OE.out, HB.out⟩
theorem defCl_ok (n : Nat) (es : List (Nat × Nat)) (ok : FrOk n es) (a : Nat) (ha : a < n) (x : Nat) (hx : x < 1024) (g g2 : Nat) (A : Option Addr) (m c : Nat) (w : World) (D : Cs w g2 [.int .i64 a]) (C : Cs w g [.int .i64 n, .slice A m c]) (h : Rws w A m c (es.map erow)) :
    Calls Try.prog 50 #[.int .i64 x, .pointer (some ⟨g2, 0, none⟩), .pointer (some ⟨g, 0, none⟩)] w fun e w' => e = .returned (.bool (defB n es a x)) ∧ Below w.heap.size w w' := by
  have y0 := C.cell 0 rfl
  have y1 := C.cell 1 rfl
  have x0 := D.cell 0 rfl
  have n10 := ok.n10
  have FR := Lib.hid (isGood_ok n es ok x hx A m c w h)
  have E := Lib.hid (show defB n es a x = (x.testBit a && goodB n es x) from rfl)
  have j0 : (0 : Int) ≤ (a : Int) := by omega
  have mn0 : min a 64 = a := by omega
  clear h C D ok
  cases hb : x.testBit a
  · have hs := shr_zero (m := x) (i := a) (by omega) hb
    rw [hb] at E
    clear hb
    go_enter Try.func50, Try.ntmps50
    go_wp2_with fail
    go_ret
    exact ⟨by rw [E.out]; rfl, Below.refl _ _⟩
  · have hs := shr_one (m := x) (i := a) (by omega) hb
    rw [hb] at E
    clear hb
    go_enter Try.func50, Try.ntmps50
    go_wp2_with fail
    refine FR.out.mono ?_
    rintro e w1 ⟨rfl, b1⟩
    have B1 := Lib.hid b1
    clear b1
    go_wp2_with fail
    go_ret
    exact ⟨by rw [E.out]; rfl, B1.out⟩
theorem adm_ok (n : Nat) (es : List (Nat × Nat)) (ok : FrOk n es) (x : Nat) (hx : x < 1024) (g : Nat) (w : World) (h : Gr w g n es) :
    Calls Try.prog 46 #[.pointer (some ⟨g, 0, none⟩), .int .i64 x] w fun e w' => e = .returned (.bool (goodB n es x)) ∧ w = w' := by
  have FR := Lib.hid (free_ok n es ok x hx g w h)
  have DF := Lib.hid (defends_ok n es ok x hx g w h)
  have E := Lib.hid (show goodB n es x = (freeB es x && decide (ldf x (dfdM n es x) = 0)) from rfl)
  have dl := dfd62 ok x
  have han := i64_andNot x (dfdM n es x) (by omega) (by omega)
  have hq := int_eq0 (ldf x (dfdM n es x))
  obtain ⟨q, hq1⟩ : ∃ q, dfdM n es x = q := ⟨_, rfl⟩
  rw [hq1] at DF hq E han dl
  obtain ⟨r, hr⟩ : ∃ r, ldf x q = r := ⟨_, rfl⟩
  rw [hr] at hq E han
  obtain ⟨v, hv⟩ : ∃ v, freeB es x = v := ⟨_, rfl⟩
  rw [hv] at FR E
  clear h ok hq1 hv hr
  cases v
  · go_enter Try.func46, Try.ntmps46
    go_wp2_with fail
    refine FR.out.mono ?_
    rintro e w1 ⟨rfl, rfl⟩
    go_wp2_with fail
    go_ret
    exact ⟨by rw [E.out]; rfl, rfl⟩
  · go_enter Try.func46, Try.ntmps46
    go_wp2_with fail
    refine FR.out.mono ?_
    rintro e w1 ⟨rfl, rfl⟩
    go_wp2_with fail
    refine DF.out.mono ?_
    rintro e w1 ⟨rfl, rfl⟩
    go_wp2_with fail
    go_ret
    exact ⟨by rw [E.out]; simp, rfl⟩
end Go.Proofs.Ytikodekffdplaaa
