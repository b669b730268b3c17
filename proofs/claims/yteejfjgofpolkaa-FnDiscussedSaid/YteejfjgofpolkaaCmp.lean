/- Lists of numbers in lexicographic order: the order, the program's and the reference's comparison. -/
import Derived.Test.YteejfjgofpolkaaFrame
import Derived.Test.YteejfjgofpolkaaGrf2
namespace Go.Proofs.Yteejfjgofpolkaa
set_option linter.unusedVariables false
set_option linter.unusedSimpArgs false
set_option maxRecDepth 100000
open Go.RowKit
def cmpL : List Int → List Int → Int
  | [], [] => 0
  | [], _ :: _ => -1
  | _ :: _, [] => 1
  | x :: a, y :: b => if x < y then -1 else if y < x then 1 else cmpL a b
theorem cmpL_swap : ∀ a b : List Int, cmpL b a = -cmpL a b
  | [], [] => rfl
  | [], _ :: _ => rfl
  | _ :: _, [] => rfl
  | x :: a, y :: b => by
    unfold cmpL
    by_cases h1 : x < y
    · rw [if_pos h1, if_neg (by omega), if_pos h1]; rfl
    · by_cases h2 : y < x
      · simp [h1, h2]
      · rw [if_neg h1, if_neg h2, if_neg h2, if_neg h1]; exact cmpL_swap a b
theorem cmpL_eq : ∀ {a b : List Int}, cmpL a b = 0 → a = b
  | [], [], _ => rfl
  | [], _ :: _, h => by simp [cmpL] at h
  | _ :: _, [], h => by simp [cmpL] at h
  | x :: a, y :: b, h => by
    unfold cmpL at h
    by_cases h1 : x < y
    · rw [if_pos h1] at h; omega
    · by_cases h2 : y < x
      · rw [if_neg h1, if_pos h2] at h; omega
      · rw [if_neg h1, if_neg h2] at h
        rw [cmpL_eq h, show x = y by omega]
theorem cmpL_self (a : List Int) : cmpL a a = 0 := by have := cmpL_swap a a; omega
theorem cmpL_trans : ∀ {a b c : List Int}, cmpL a b ≤ 0 → cmpL b c ≤ 0 → cmpL a c ≤ 0
  | [], _, [], _, _ => by simp [cmpL]
  | [], _, _ :: _, _, _ => by simp [cmpL]
  | _ :: _, [], _, h, _ => by simp [cmpL] at h
  | _ :: _, _ :: _, [], _, h => by simp [cmpL] at h
  | x :: a, y :: b, z :: c, h1, h2 => by
    unfold cmpL at *
    by_cases a1 : x < y
    · by_cases b1 : y < z
      · rw [if_pos (by omega)]; omega
      · by_cases b2 : z < y
        · rw [if_neg b1, if_pos b2] at h2; omega
        · rw [if_pos (by omega)]; omega
    · by_cases a2 : y < x
      · rw [if_neg a1, if_pos a2] at h1; omega
      · rw [if_neg a1, if_neg a2] at h1
        by_cases b1 : y < z
        · rw [if_pos (by omega)]; omega
        · by_cases b2 : z < y
          · rw [if_neg b1, if_pos b2] at h2; omega
          · rw [if_neg b1, if_neg b2] at h2
            rw [if_neg (by omega), if_neg (by omega)]
            exact cmpL_trans h1 h2
theorem cmpL_vals : ∀ a b : List Int, -1 ≤ cmpL a b ∧ cmpL a b ≤ 1
  | [], [] => by simp [cmpL]
  | [], _ :: _ => by simp [cmpL]
  | _ :: _, [] => by simp [cmpL]
  | x :: a, y :: b => by
    unfold cmpL
    have := cmpL_vals a b
    split
    · omega
    · split <;> omega
theorem cmpL_lt_trans {a b c : List Int} (h1 : cmpL a b < 0) (h2 : cmpL b c < 0) : cmpL a c < 0 := by
  have h3 := cmpL_trans (show cmpL a b ≤ 0 by omega) (show cmpL b c ≤ 0 by omega)
  rcases Int.lt_or_eq_of_le h3 with h | h
  · exact h
  · have e := cmpL_eq h
    subst e
    have := cmpL_swap a b
    omega
/-- Ascending. -/
def Asc (l : List (List Int)) : Prop := l.Pairwise fun a b => cmpL a b ≤ 0
theorem asc_unique : ∀ {l m : List (List Int)}, Asc l → Asc m → l.Perm m → l = m
  | [], m, _, _, h => h.nil_eq
  | x :: l, [], _, _, h => absurd h.symm.nil_eq (by simp)
  | x :: l, y :: m, h1, h2, h => by
    have hx := (List.pairwise_cons.1 h1).1
    have hy := (List.pairwise_cons.1 h2).1
    have e : x = y := by
      have mx : x ∈ y :: m := h.subset List.mem_cons_self
      have my : y ∈ x :: l := h.symm.subset List.mem_cons_self
      rcases List.mem_cons.1 mx with e | mx
      · exact e
      · rcases List.mem_cons.1 my with e | my
        · exact e.symm
        · have a1 := hx y my
          have a2 := hy x mx
          have := cmpL_swap x y
          exact cmpL_eq (by omega)
    subst e
    rw [asc_unique (List.pairwise_cons.1 h1).2 (List.pairwise_cons.1 h2).2 (List.Perm.cons_inv h)]
def insL (x : List Int) : List (List Int) → List (List Int)
  | [] => [x]
  | y :: l => if cmpL x y < 0 then x :: y :: l else y :: insL x l
theorem insL_perm (x : List Int) : ∀ l, (insL x l).Perm (x :: l)
  | [] => List.Perm.refl _
  | y :: l => by
    unfold insL
    split
    · exact List.Perm.refl _
    · exact ((insL_perm x l).cons y).trans (List.Perm.swap x y l)
theorem insL_asc (x : List Int) : ∀ {l}, Asc l → Asc (insL x l)
  | [], _ => List.pairwise_singleton _ _
  | y :: l, h => by
    have hy := (List.pairwise_cons.1 h).1
    unfold insL
    by_cases hc : cmpL x y < 0
    · rw [if_pos hc]
      refine List.pairwise_cons.2 ⟨fun z hz => ?_, h⟩
      rcases List.mem_cons.1 hz with rfl | hz
      · omega
      · exact cmpL_trans (show cmpL x y ≤ 0 by omega) (hy z hz)
    · rw [if_neg hc]
      refine List.pairwise_cons.2 ⟨fun z hz => ?_, insL_asc x (List.pairwise_cons.1 h).2⟩
      rcases List.mem_cons.1 ((insL_perm x l).subset hz) with rfl | hz
      · have := cmpL_swap z y; omega
      · exact hy z hz
/-- In ascending order. -/
def srtL : List (List Int) → List (List Int)
  | [] => []
  | x :: l => insL x (srtL l)
theorem srtL_perm : ∀ l, (srtL l).Perm l
  | [] => List.Perm.refl _
  | x :: l => (insL_perm x _).trans ((srtL_perm l).cons x)
theorem srtL_asc : ∀ l, Asc (srtL l)
  | [] => List.Pairwise.nil
  | x :: l => insL_asc x (srtL_asc l)
theorem srtL_of {l m : List (List Int)} (h : Asc m) (hp : m.Perm l) : m = srtL l := asc_unique h (srtL_asc l) (hp.trans (srtL_perm l).symm)
theorem srtL_len (l : List (List Int)) : (srtL l).length = l.length := (srtL_perm l).length_eq
theorem cmpL_drop : ∀ (k : Nat) {a b : List Int}, a.take k = b.take k → k ≤ a.length → k ≤ b.length → cmpL a b = cmpL (a.drop k) (b.drop k)
  | 0, _, _, _, _, _ => rfl
  | k + 1, [], _, _, h, _ => by simp at h
  | k + 1, _ :: _, [], _, _, h => by simp at h
  | k + 1, x :: a, y :: b, h, h1, h2 => by
    simp only [List.take_succ_cons, List.cons.injEq] at h
    simp only [List.length_cons] at h1 h2
    rw [List.drop_succ_cons, List.drop_succ_cons, ← cmpL_drop k h.2 (by omega) (by omega)]
    rw [h.1]
    unfold cmpL
    rw [if_neg (by omega), if_neg (by omega)]
    cases a <;> cases b <;> rfl
theorem drop_at {l : List Int} {k : Nat} {z : Int} (h : l[k]? = some z) : l.drop k = z :: l.drop (k + 1) := by
  obtain ⟨hk, e⟩ := List.getElem?_eq_some_iff.1 h
  rw [List.drop_eq_getElem_cons hk, e]
theorem cmpL_at {a b : List Int} {k : Nat} {z y : Int} (h : a.take k = b.take k) (h1 : a[k]? = some z) (h2 : b[k]? = some y) (hne : z ≠ y) : cmpL a b = if z < y then -1 else 1 := by
  have l1 := (List.getElem?_eq_some_iff.1 h1).1
  have l2 := (List.getElem?_eq_some_iff.1 h2).1
  rw [cmpL_drop k h (by omega) (by omega), drop_at h1, drop_at h2]
  unfold cmpL
  by_cases hlt : z < y
  · rw [if_pos hlt, if_pos hlt]
  · rw [if_neg hlt, if_neg hlt, if_pos (by omega)]
theorem cmpL_long {a b : List Int} (h : a.take b.length = b.take b.length) (hl : b.length < a.length) : cmpL a b = 1 := by
  rw [cmpL_drop b.length h (by omega) (Nat.le_refl _), List.drop_length]
  cases e : a.drop b.length with
  | nil => have := congrArg List.length e; simp at this; omega
  | cons x l => rfl
theorem cmpL_end {a b : List Int} (h : a.take a.length = b.take a.length) (hl : a.length ≤ b.length) : cmpL a b = if a.length < b.length then -1 else 0 := by
  rw [cmpL_drop a.length h (Nat.le_refl _) hl, List.drop_length]
  by_cases hlt : a.length < b.length
  · rw [if_pos hlt]
    cases e : b.drop a.length with
    | nil => have := congrArg List.length e; simp at this; omega
    | cons x l => rfl
  · rw [if_neg hlt, List.drop_eq_nil_of_le (by omega)]; rfl
theorem take_next {a b : List Int} {k : Nat} {z : Int} (h : a.take k = b.take k) (h1 : a[k]? = some z) (h2 : b[k]? = some z) : a.take (k + 1) = b.take (k + 1) := by rw [take_snoc' h1, take_snoc' h2, h]
theorem compareL_any (A : Option Addr) (n c : Nat) (zs : List Int) (B : Option Addr) (m d : Nat) (ys : List Int) (w : World) (h : Ints .i64 w A n c zs) (k : Ints .i64 w B m d ys) :
    Calls Try.prog 98 #[.slice A n c, .slice B m d] w fun e w' => e = .returned (.int .i64 (cmpL zs ys)) ∧ w = w' := by
  have hz := h.1
  have hy := k.1
  have hn := h.short
  have hm := k.short
  have HZ := Lib.hid hz
  have HY := Lib.hid hy
  go_enter Try.func98, Try.ntmps98
  go_wp2_with fail
  go_loop [11] (fun t => ∃ j : Nat, j ≤ n ∧ j ≤ m ∧ t = .int .i64 j ∧ Hid (zs.take j = ys.take j)) (fun t => n - (intOf t).toNat)
  case atStart => exact ⟨0, Nat.zero_le _, Nat.zero_le _, rfl, rfl⟩
  case round =>
    obtain ⟨j, hj, hjm, rfl, T⟩ := hrel
    by_cases hlt : j < n
    · obtain ⟨b, off, z, rfl, _, cz, z1, z2, ez⟩ := h.at hlt
      have d0 := decide_eq_true (show (j : Int) < (n : Int) by omega)
      have j0 : (0 : Int) ≤ (j : Int) := by omega
      have j1 : (j : Int) < (n : Int) := by omega
      by_cases hlm : j < m
      · obtain ⟨b2, off2, y, rfl, _, cy, y1, y2, ey⟩ := k.at hlm
        have d1 := decide_eq_false (show ¬ (m : Int) ≤ (j : Int) by omega)
        have j2 : (j : Int) < (m : Int) := by omega
        by_cases h1 : z < y
        · have E := Lib.hid (show cmpL zs ys = -1 by rw [cmpL_at T.out ez.out ey.out (by omega), if_pos h1])
          go_wp2_with fail
          refine (cmpI_any z y _).mono ?_
          rintro e w1 ⟨rfl, rfl⟩
          rw [if_pos h1]
          go_wp2_with fail
          go_ret
          exact ⟨by rw [E.out]; rfl, rfl⟩
        · by_cases h2 : y < z
          · have E := Lib.hid (show cmpL zs ys = 1 by rw [cmpL_at T.out ez.out ey.out (by omega), if_neg h1])
            go_wp2_with fail
            refine (cmpI_any z y _).mono ?_
            rintro e w1 ⟨rfl, rfl⟩
            rw [if_neg (by omega), if_pos h2]
            go_wp2_with fail
            go_ret
            exact ⟨by rw [E.out]; rfl, rfl⟩
          · obtain rfl : z = y := by omega
            have T2 := Lib.hid (take_next T.out ez.out ey.out)
            go_wp2_with fail
            refine (cmpI_any z z _).mono ?_
            rintro e w1 ⟨rfl, rfl⟩
            rw [if_neg (by omega), if_neg (by omega)]
            go_wp2_with fail
            go_round
            case rel => exact ⟨j + 1, by omega, by omega, by go_num, T2.out⟩
            case measure => simp [intOf]; omega
      · obtain rfl : j = m := by omega
        have d1 := decide_eq_true (show (j : Int) ≤ (j : Int) by omega)
        have E := Lib.hid (show cmpL zs ys = 1 from cmpL_long (by rw [HY.out]; exact T.out) (by rw [HY.out, HZ.out]; exact hlt))
        go_wp2_with fail
        go_ret
        exact ⟨by rw [E.out]; rfl, rfl⟩
    · obtain rfl : j = n := by omega
      have d0 := decide_eq_false (show ¬ (j : Int) < (j : Int) by omega)
      have E := Lib.hid (show cmpL zs ys = if j < m then -1 else 0 by rw [cmpL_end (by rw [HZ.out]; exact T.out) (by rw [HZ.out, HY.out]; exact hjm), HZ.out, HY.out])
      by_cases hlm : j < m
      · have d1 := decide_eq_true (show (j : Int) < (m : Int) by omega)
        rw [if_pos hlm] at E
        go_wp2_with fail
        go_ret
        exact ⟨by rw [E.out]; rfl, rfl⟩
      · have d1 := decide_eq_false (show ¬ (j : Int) < (m : Int) by omega)
        rw [if_neg hlm] at E
        go_wp2_with fail
        go_ret
        exact ⟨by rw [E.out]; rfl, rfl⟩
theorem sortCl_any (A : Option Addr) (n c : Nat) (zs : List Int) (B : Option Addr) (m d : Nat) (ys : List Int) (w : World) (h : Ints .i64 w A n c zs) (k : Ints .i64 w B m d ys) :
    Calls Try.prog 112 #[.slice A n c, .slice B m d] w fun e w' => e = .returned (.int .i64 (cmpL zs ys)) ∧ w = w' := by
  go_enter Try.func112, Try.ntmps112
  go_wp2_with fail
  refine (compareL_any A n c zs B m d ys _ h k).mono ?_
  rintro e w1 ⟨rfl, rfl⟩
  go_wp2_with fail
  go_ret
  exact ⟨rfl, rfl⟩
end Go.Proofs.Yteejfjgofpolkaa
