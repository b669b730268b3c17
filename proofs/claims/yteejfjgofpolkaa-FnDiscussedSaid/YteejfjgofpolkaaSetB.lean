/- Sets of arguments as ascending lists: what the laws' helpers say of them; the program's masks of them. -/
import Derived.Test.YteejfjgofpolkaaCmp
import Derived.Test.YteejfjgofpolkaaDefd
import Derived.Test.YteejfjgofpolkaaFrame3
import Derived.Deep.QuietTactic
import Derived.BigQuiet
import Derived.WalkLawsBesides
namespace Go.Proofs.Yteejfjgofpolkaa
set_option linter.unusedVariables false
set_option linter.unusedSimpArgs false
set_option maxRecDepth 100000
open Go.RowKit Go.Deep
def SetP (zs : List Int) (m : Int) : Prop := (∀ z ∈ zs, 0 ≤ z ∧ z ≤ m - 1) ∧ ∀ (i : Nat) (x y : Int), zs[i]? = some x → zs[i + 1]? = some y → x < y
theorem SetP.nil (m : Int) : SetP [] m := ⟨by simp, by simp⟩
theorem SetP.next {zs : List Int} {m z : Int} {k : Nat} (h : SetP (zs.take k) m) (hz : zs[k]? = some z) (hr : 0 ≤ z ∧ z ≤ m - 1) (hp : ∀ x, 0 < k → zs[k - 1]? = some x → x < z) : SetP (zs.take (k + 1)) m := by
  have hl := (List.getElem?_eq_some_iff.1 hz).1
  rw [take_snoc' hz]
  have hkl : (zs.take k).length = k := by rw [List.length_take]; omega
  refine ⟨fun y hy => ?_, fun i x y hx hy => ?_⟩
  · rcases List.mem_append.1 hy with hy | hy
    · exact h.1 y hy
    · simp at hy; subst hy; exact hr
  · rcases Nat.lt_or_ge (i + 1) k with h1 | h1
    · rw [List.getElem?_append_left (by omega)] at hx hy
      exact h.2 i x y hx hy
    · have hi : i + 1 = k := by
        have := (List.getElem?_eq_some_iff.1 hy).1
        rw [List.length_append, hkl] at this; simp at this; omega
      rw [List.getElem?_append_right (by omega), hkl, hi, Nat.sub_self] at hy
      simp at hy
      subst hy
      rw [List.getElem?_append_left (by omega), List.getElem?_take, if_pos (by omega)] at hx
      exact hp x (by omega) (by rw [← hi]; simpa using hx)
theorem SetP.bad {zs : List Int} {m z : Int} {k : Nat} (h : SetP zs m) (hz : zs[k]? = some z) : (0 ≤ z ∧ z ≤ m - 1) ∧ ∀ x, 0 < k → zs[k - 1]? = some x → x < z :=
  ⟨h.1 z (mem_of_at hz), fun x h0 hx => h.2 (k - 1) x z hx (by rw [Nat.sub_add_cancel h0]; exact hz)⟩
theorem bitsTo_asc (m k : Nat) : (bitsTo m k).Pairwise (· < ·) := by
  unfold bitsTo
  exact List.pairwise_map.2 ((List.Pairwise.filter _ List.pairwise_lt_range).imp fun h => Int.ofNat_lt.2 h)
theorem setP_bits {m n : Nat} (hm : m < 2 ^ n) : SetP (bitsTo m 10) n := by
  refine ⟨fun z hz => ?_, fun i x y hx hy => ?_⟩
  · obtain ⟨a, rfl, _, hb⟩ := bitsTo_mem.1 hz
    have := bit_lt hm hb
    omega
  · obtain ⟨h1, rfl⟩ := List.getElem?_eq_some_iff.1 hx
    obtain ⟨h2, rfl⟩ := List.getElem?_eq_some_iff.1 hy
    exact List.pairwise_iff_getElem.1 (bitsTo_asc m 10) i (i + 1) h1 h2 (by omega)
theorem bitsTo_has {m x : Nat} (hx : x < 10) : (bitsTo m 10).any (· == (x : Int)) = m.testBit x := by
  rw [Bool.eq_iff_iff, List.any_eq_true]
  constructor
  · rintro ⟨z, hz, e⟩
    obtain ⟨a, rfl, _, hb⟩ := bitsTo_mem.1 hz
    have : a = x := by simp at e; omega
    exact this ▸ hb
  · intro h
    exact ⟨x, bitsTo_mem.2 ⟨x, rfl, hx, h⟩, by simp⟩
theorem bit_ge10 {m i : Nat} (hm : m < 1024) (h : m.testBit i = true) : i < 10 := bit_lt (n := 10) (by omega) h
theorem bits_sub {m o : Nat} (hm : m < 1024) (ho : o < 1024) : (bitsTo m 10).all (fun z => (bitsTo o 10).any (· == z)) = decide (ldf m o = 0) := by
  rw [Bool.eq_iff_iff, List.all_eq_true, decide_eq_true_eq, ldf_zero (by omega) (by omega)]
  constructor
  · intro h i hb
    have hi := bit_ge10 hm hb
    have := h i (bitsTo_mem.2 ⟨i, rfl, hi, hb⟩)
    rwa [bitsTo_has hi] at this
  · intro h z hz
    obtain ⟨a, rfl, ha, hb⟩ := bitsTo_mem.1 hz
    rw [bitsTo_has ha]
    exact h a hb
theorem bitsTo_inj {m o : Nat} (hm : m < 1024) (ho : o < 1024) (h : bitsTo m 10 = bitsTo o 10) : m = o := by
  refine Nat.eq_of_testBit_eq fun i => ?_
  by_cases hi : i < 10
  · rw [← bitsTo_has hi, ← bitsTo_has hi, h]
  · cases e1 : m.testBit i
    · cases e2 : o.testBit i
      · rfl
      · exact absurd (bit_ge10 ho e2) hi
    · exact absurd (bit_ge10 hm e1) hi
/-- The mask of a list. -/
def orM (l : List Int) : Nat := l.foldl (fun o z => o ||| 2 ^ z.toNat) 0
theorem orM_snoc (l : List Int) (z : Int) : orM (l ++ [z]) = orM l ||| 2 ^ z.toNat := by simp [orM]
theorem orM_fold (i : Nat) : ∀ (l : List Int) (o : Nat), (l.foldl (fun o z => o ||| 2 ^ z.toNat) o).testBit i = (o.testBit i || l.any fun z => decide (z.toNat = i))
  | [], o => by simp
  | z :: l, o => by rw [List.foldl_cons, orM_fold i l, or_pow_bit, List.any_cons, Bool.or_assoc]
theorem orM_bits {m : Nat} (hm : m < 1024) : orM (bitsTo m 10) = m := by
  refine Nat.eq_of_testBit_eq fun i => ?_
  unfold orM
  rw [orM_fold, Nat.zero_testBit, Bool.false_or, Bool.eq_iff_iff, List.any_eq_true]
  constructor
  · rintro ⟨z, hz, e⟩
    obtain ⟨a, rfl, _, hb⟩ := bitsTo_mem.1 hz
    have : a = i := by simpa using e
    exact this ▸ hb
  · intro h
    exact ⟨i, bitsTo_mem.2 ⟨i, rfl, bit_ge10 hm h, h⟩, by simp⟩
theorem orM_lt {m k : Nat} : orM ((bitsTo m 10).take k) < 1024 := by
  refine (lt_of_bits (n := 10) fun i hi => ?_ : _ < 2 ^ 10)
  unfold orM at hi
  rw [orM_fold, Nat.zero_testBit, Bool.false_or, List.any_eq_true] at hi
  obtain ⟨z, hz, e⟩ := hi
  obtain ⟨a, rfl, ha, _⟩ := bitsTo_mem.1 (List.mem_of_mem_take hz)
  have : a = i := by simpa using e
  omega
theorem frB_of {n : Nat} {es : List (Nat × Nat)} (ok : FrOk n es) : frB n (es.map erow) = true := by
  unfold frB
  rw [Bool.and_eq_true]
  have n10 := ok.n10
  have ew : IntKind.i64.wrap ((n : Int) - 1) = (n : Int) - 1 := IntWalk.i64_in _ (by omega)
  refine ⟨List.all_eq_true.2 fun i hi => ?_, inR_true.2 (by omega)⟩
  have hi' : i < es.length := by simpa using hi
  have hp := List.getElem?_eq_getElem hi'
  have i1 := ok.inn _ (List.getElem_mem hi')
  have g1 : (es.map erow).getD i [] = erow es[i] := getD_row (by rw [List.getElem?_map, hp]; rfl)
  unfold rowC rowP
  rw [g1, ew, Bool.and_eq_true, Bool.and_eq_true, Bool.and_eq_true]
  refine ⟨⟨⟨by simp [erow], inR_true.2 (by simp [erow]; omega)⟩, inR_true.2 (by simp [erow]; omega)⟩, ?_⟩
  rw [Bool.or_eq_true]
  rcases Nat.eq_zero_or_pos i with h0 | h0
  · exact .inl (by simp [h0])
  · refine .inr ?_
    have hp2 := List.getElem?_eq_getElem (show i - 1 < es.length by omega)
    have g2 : (es.map erow).getD (i - 1) [] = erow es[i - 1] := getD_row (by rw [List.getElem?_map, hp2]; rfl)
    have := ok.lt (i - 1) _ _ hp2 (by rw [show i - 1 + 1 = i by omega]; exact hp)
    rw [g2]
    unfold lexB cmp2 erow
    unfold lt2 at this
    simp only [List.getD_cons_zero, List.getD_cons_succ]
    rcases this with h | ⟨h1, h2⟩
    · rw [if_pos (by omega)]; rfl
    · rw [if_neg (by omega), if_neg (by omega), if_pos (by omega)]; rfl
def SetB (b : Bool) (zs : List Int) (m : Int) : Prop := b = true ↔ SetP zs m
def SetEnd (zs : List Int) (m : Int) (w : World) (e : Ending) (w' : World) : Prop := ∃ b, e = .returned (.bool b) ∧ SetB b zs m ∧ w = w'
theorem isSet_any (A : Option Addr) (n c : Nat) (zs : List Int) (m : Int) (w : World) (h : Ints .i64 w A n c zs) (hm : -9223372036854775807 ≤ m) (hm2 : m ≤ 9223372036854775807) :
    Calls Try.prog 113 #[.slice A n c, .int .i64 m] w (SetEnd zs m w) := by
  have hs := h.short
  have hl := Lib.hid h.1
  go_enter Try.func113, Try.ntmps113
  go_wp2_with fail
  go_loop [9] (fun i => ∃ k : Nat, k ≤ n ∧ i = .int .i64 k ∧ SetP (zs.take k) m) (fun i => n - (intOf i).toNat)
  case atStart => exact ⟨0, Nat.zero_le _, rfl, by simpa using SetP.nil m⟩
  case round =>
    obtain ⟨k, hk, rfl, hset⟩ := hrel
    have HS := Lib.hid hset
    clear hset
    by_cases hlt : k < n
    · obtain ⟨b, off, z, rfl, hb, hcell, hz1, hz2, hz⟩ := h.at hlt
      cases hr : inR z 0 (m - 1)
      · have HR := Lib.hid hr
        have NO : Hid ((false = true) ↔ SetP zs m) := by
          show _ ↔ _
          constructor
          · intro h; cases h
          · intro h; exact absurd ((h.bad hz.out).1) (inR_false.1 hr)
        clear hr
        go_wp2_with fail
        refine (within_val HR.out _).mono ?_
        rintro e w1 ⟨rfl, rfl⟩
        go_wp2_with fail
        go_ret
        exact ⟨false, rfl, NO.out, rfl⟩
      · have HR := Lib.hid hr
        have hri := inR_true.1 hr
        clear hr
        rcases Nat.eq_zero_or_pos k with h0 | h0
        · subst h0
          rw [Nat.add_zero] at hcell
          have HN := Lib.hid (HS.out.next hz.out hri (fun x h0 => absurd h0 (by omega)))
          go_wp2_with fail
          refine (within_val HR.out _).mono ?_
          rintro e w1 ⟨rfl, rfl⟩
          go_wp2_with fail
          go_round
          case rel => exact ⟨1, by omega, by go_num, HN.out⟩
          case measure => simp [intOf]; omega
        · obtain ⟨k, rfl⟩ : ∃ k', k = k' + 1 := ⟨k - 1, by omega⟩
          obtain ⟨_, _, x, ea, hb2, cx, x1, x2, hx⟩ := h.at (j := k) (by omega)
          simp only [Option.some.injEq, Addr.mk.injEq, and_true] at ea
          obtain ⟨rfl, rfl⟩ := ea
          rw [Int.natCast_add, Int.natCast_one]
          by_cases hxz : x < z
          · have HN := Lib.hid (HS.out.next hz.out hri (fun y _ hy => by
              rw [Nat.add_sub_cancel, hx.out] at hy
              injection hy with hy
              omega))
            go_wp2_with fail
            refine (within_val HR.out _).mono ?_
            rintro e w1 ⟨rfl, rfl⟩
            go_wp2_with fail
            go_round
            case rel => exact ⟨k + 2, by omega, by go_num, HN.out⟩
            case measure => simp [intOf]; omega
          · have NO : Hid ((false = true) ↔ SetP zs m) := by
              show _ ↔ _
              constructor
              · intro h; cases h
              · intro h; exact absurd ((h.bad hz.out).2 x (by omega) (by rw [Nat.add_sub_cancel]; exact hx.out)) hxz
            go_wp2_with fail
            refine (within_val HR.out _).mono ?_
            rintro e w1 ⟨rfl, rfl⟩
            go_wp2_with fail
            go_ret
            exact ⟨false, rfl, NO.out, rfl⟩
    · have HE : Hid (SetP zs m) := by
        show SetP _ _
        have := HS.out
        rwa [List.take_of_length_le (by rw [hl.out]; omega)] at this
      go_wp2_with fail
      go_ret
      exact ⟨true, rfl, ⟨fun _ => HE.out, fun _ => rfl⟩, rfl⟩
theorem r8Has_any (A : Option Addr) (n c : Nat) (zs : List Int) (x : Int) (w : World) (h : Ints .i64 w A n c zs) :
    Calls Try.prog 40 #[.slice A n c, .int .i64 x] w fun e w' => e = .returned (.bool (zs.any (· == x))) ∧ w = w' := by
  have hm := h.short
  have hl := Lib.hid h.1
  go_enter Try.func40, Try.ntmps40
  go_wp2_with fail
  go_loop [5] (fun i => ∃ k : Nat, k ≤ n ∧ i = .int .i64 k ∧ (zs.take k).any (· == x) = false) (fun i => n - (intOf i).toNat)
  case atStart => exact ⟨0, Nat.zero_le _, rfl, rfl⟩
  case round =>
    obtain ⟨k, hk, rfl, hany⟩ := hrel
    have HA := Lib.hid hany
    clear hany
    by_cases hlt : k < n
    · obtain ⟨b, off, z, rfl, hb, hcell, hz1, hz2, hz⟩ := h.at hlt
      by_cases hzx : z = x
      · have hq : (z == x) = true := by simp [hzx]
        have R := Lib.hid (any_stop (p := (· == x)) hz.out hq)
        clear hzx
        go_wp2_with fail
        go_ret
        exact ⟨ret_bool R.out.symm, rfl⟩
      · have hq : (z == x) = false := by simpa using hzx
        have R := Lib.hid (any_next (p := (· == x)) hz.out HA.out hq)
        clear hzx
        go_wp2_with fail
        go_round
        case rel => exact ⟨k + 1, by omega, by go_num, R.out⟩
        case measure => simp [intOf]; omega
    · have R := Lib.hid (any_end (p := (· == x)) (by rw [hl.out]; omega) HA.out)
      go_wp2_with fail
      go_ret
      exact ⟨ret_bool R.out.symm, rfl⟩
set_option maxHeartbeats 1000000 in
theorem r8Less_any (A : Option Addr) (n c : Nat) (zs : List Int) (B : Option Addr) (m d : Nat) (ys : List Int) (w : World) (h : Ints .i64 w A n c zs) (k : Ints .i64 w B m d ys) :
    Calls Try.prog 48 #[.slice A n c, .slice B m d] w fun e w' => e = .returned (.bool (decide (cmpL zs ys < 0))) ∧ Below w.heap.size w w' := by
  have HZ := Lib.hid h.1
  have HY := Lib.hid k.1
  have hn := h.short
  have hm := k.short
  have HH := Lib.hid h
  have HK := Lib.hid k
  clear h k
  go_enter Try.func48, Try.ntmps48
  go_wp2_with fail
  go_loopw [5] (fun t wr => ∃ j : Nat, j ≤ n ∧ j ≤ m ∧ t = .int .i64 j ∧ Hid (zs.take j = ys.take j) ∧ Below w.heap.size w wr) (fun t _ => n - (intOf t).toNat)
  case atStart => exact ⟨0, Nat.zero_le _, Nat.zero_le _, rfl, rfl, Below.refl _ _⟩
  case round =>
    obtain ⟨j, hj, hjm, rfl, T, hb⟩ := hrel
    have HB := Lib.hid hb
    clear hb
    by_cases hlt : j < n
    · have d0 := decide_eq_true (show (j : Int) < (n : Int) by omega)
      by_cases hlm : j < m
      · have d1 := decide_eq_true (show (j : Int) < (m : Int) by omega)
        obtain ⟨b, off, z, rfl, _, cz, z1, z2, ez⟩ := (HH.out.below HB.out).at hlt
        obtain ⟨b2, off2, y, rfl, _, cy, y1, y2, ey⟩ := (HK.out.below HB.out).at hlm
        have j0 : (0 : Int) ≤ (j : Int) := by omega
        have j1 : (j : Int) < (n : Int) := by omega
        have j2 : (j : Int) < (m : Int) := by omega
        by_cases h1 : z = y
        · subst h1
          have hne : (z != z) = false := by simp
          have T2 := Lib.hid (take_next T.out ez.out ey.out)
          go_wp2_with fail
          go_quiet (fail)
          go_wp2_with fail
          go_roundw
          case rel => exact ⟨j + 1, by omega, by omega, by go_num, T2.out, below_drewN HB.out _⟩
          case measure => simp [intOf]; omega
        · have hne : (z != y) = true := by simp [h1]
          have E := Lib.hid (show decide (cmpL zs ys < 0) = decide (z < y) by
            rw [cmpL_at T.out ez.out ey.out h1]
            by_cases h2 : z < y <;> simp [h2])
          go_wp2_with fail
          go_quiet (fail)
          go_wp2_with fail
          go_quiet (fail)
          go_wp2_with fail
          go_ret
          exact ⟨by rw [E.out]; rfl, below_drewN (below_drewN HB.out _) _⟩
      · obtain rfl : j = m := by omega
        have d1 := decide_eq_false (show ¬ (j : Int) < (j : Int) by omega)
        have d2 := decide_eq_false (show ¬ n < j by omega)
        have E := Lib.hid (show decide (cmpL zs ys < 0) = false by rw [cmpL_long (by rw [HY.out]; exact T.out) (by rw [HY.out, HZ.out]; exact hlt)]; rfl)
        go_wp2_with fail
        go_ret
        exact ⟨by rw [E.out]; rfl, HB.out⟩
    · obtain rfl : j = n := by omega
      have d0 := decide_eq_false (show ¬ (j : Int) < (j : Int) by omega)
      have E := Lib.hid (show decide (cmpL zs ys < 0) = decide ((j : Int) < (m : Int)) by
        rw [cmpL_end (by rw [HZ.out]; exact T.out) (by rw [HZ.out, HY.out]; exact hjm), HZ.out, HY.out]
        by_cases h2 : j < m
        · simp [h2]
        · simp [h2])
      go_wp2_with fail
      go_ret
      exact ⟨by rw [E.out]; first | rfl | simp, HB.out⟩
set_option maxHeartbeats 1000000 in
theorem r8Same_any (A : Option Addr) (n c : Nat) (zs : List Int) (B : Option Addr) (m d : Nat) (ys : List Int) (w : World) (h : Ints .i64 w A n c zs) (k : Ints .i64 w B m d ys) :
    Calls Try.prog 47 #[.slice A n c, .slice B m d] w fun e w' => e = .returned (.bool (decide (zs = ys))) ∧ Below w.heap.size w w' := by
  have HZ := Lib.hid h.1
  have HY := Lib.hid k.1
  have hn := h.short
  have hm := k.short
  have HH := Lib.hid h
  have HK := Lib.hid k
  clear h k
  by_cases hnm : n = m
  · subst hnm
    have d9 : ((n : Int) != (n : Int)) = false := by simp
    go_enter Try.func47, Try.ntmps47
    go_wp2_with fail
    go_loopw [5] (fun t wr => ∃ j : Nat, j ≤ n ∧ t = .int .i64 j ∧ Hid (zs.take j = ys.take j) ∧ Below w.heap.size w wr) (fun t _ => n - (intOf t).toNat)
    case atStart => exact ⟨0, Nat.zero_le _, rfl, rfl, Below.refl _ _⟩
    case round =>
      obtain ⟨j, hj, rfl, T, hb⟩ := hrel
      have HB := Lib.hid hb
      clear hb
      by_cases hlt : j < n
      · have d0 := decide_eq_true (show (j : Int) < (n : Int) by omega)
        obtain ⟨b, off, z, rfl, _, cz, z1, z2, ez⟩ := (HH.out.below HB.out).at hlt
        obtain ⟨b2, off2, y, rfl, _, cy, y1, y2, ey⟩ := (HK.out.below HB.out).at hlt
        have j0 : (0 : Int) ≤ (j : Int) := by omega
        have j1 : (j : Int) < (n : Int) := by omega
        by_cases h1 : z = y
        · subst h1
          have hne : (z != z) = false := by simp
          have T2 := Lib.hid (take_next T.out ez.out ey.out)
          go_wp2_with fail
          go_quiet (fail)
          go_wp2_with fail
          go_roundw
          case rel => exact ⟨j + 1, by omega, by go_num, T2.out, below_drewN HB.out _⟩
          case measure => simp [intOf]; omega
        · have hne : (z != y) = true := by simp [h1]
          have E := Lib.hid (show decide (zs = ys) = false from decide_eq_false fun e => h1 (by have := ez.out; rw [e, ey.out] at this; injection this with this; exact this.symm))
          go_wp2_with fail
          go_quiet (fail)
          go_wp2_with fail
          go_ret
          exact ⟨by rw [E.out]; rfl, below_drewN HB.out _⟩
      · obtain rfl : j = n := by omega
        have d0 := decide_eq_false (show ¬ (j : Int) < (j : Int) by omega)
        have E := Lib.hid (show decide (zs = ys) = true from decide_eq_true (by have := T.out; rwa [List.take_of_length_le (by rw [HZ.out]; omega), List.take_of_length_le (by rw [HY.out]; omega)] at this))
        go_wp2_with fail
        go_ret
        exact ⟨by rw [E.out]; rfl, HB.out⟩
  · have d9 : ((n : Int) != (m : Int)) = true := by simp; omega
    have E := Lib.hid (show decide (zs = ys) = false from decide_eq_false fun e => hnm (by rw [← HZ.out, ← HY.out, e]))
    go_enter Try.func47, Try.ntmps47
    go_wp2_with fail
    go_ret
    exact ⟨by rw [E.out]; rfl, Below.refl _ _⟩
theorem r8Among_any (A : Option Addr) (n c : Nat) (zss : List (List Int)) (B : Option Addr) (m d : Nat) (ys : List Int) (w : World) (h : Rws w A n c zss) (k : Ints .i64 w B m d ys) :
    Calls Try.prog 43 #[.slice A n c, .slice B m d] w fun e w' => e = .returned (.bool (zss.any fun z => decide (z = ys))) ∧ Below w.heap.size w w' := by
  have HZ := Lib.hid h.1
  have hn := h.short
  have HH := Lib.hid h
  have HK := Lib.hid k
  clear h k
  go_enter Try.func43, Try.ntmps43
  go_wp2_with fail
  go_loopw [5] (fun t wr => ∃ j : Nat, j ≤ n ∧ t = .int .i64 j ∧ Hid ((zss.take j).any (fun z => decide (z = ys)) = false) ∧ Below w.heap.size w wr) (fun t _ => n - (intOf t).toNat)
  case atStart => exact ⟨0, Nat.zero_le _, rfl, rfl, Below.refl _ _⟩
  case round =>
    obtain ⟨j, hj, rfl, T, hb⟩ := hrel
    have HB := Lib.hid hb
    clear hb
    by_cases hlt : j < n
    · have d0 := decide_eq_true (show (j : Int) < (n : Int) by omega)
      obtain ⟨b, off, A', n', c', z, rfl, hb, cz, hz, ez⟩ := (HH.out.below HB.out).at hlt
      have j0 : (0 : Int) ≤ (j : Int) := by omega
      have j1 : (j : Int) < (n : Int) := by omega
      have RS := Lib.hid (r8Same_any A' n' c' z B m d ys _ hz (HK.out.below HB.out))
      clear hz
      by_cases e : z = ys
      · rw [decide_eq_true e] at RS
        have R := Lib.hid (any_stop (p := fun z => decide (z = ys)) ez.out (decide_eq_true e))
        clear e
        go_wp2_with fail
        refine RS.out.mono ?_
        rintro e w1 ⟨rfl, u1⟩
        have B1 := Lib.hid (bel_trans HB.out u1)
        clear u1
        go_wp2_with fail
        go_ret
        exact ⟨by rw [R.out]; rfl, B1.out⟩
      · rw [decide_eq_false e] at RS
        have R := Lib.hid (any_next (p := fun z => decide (z = ys)) ez.out T.out (decide_eq_false e))
        clear e
        go_wp2_with fail
        refine RS.out.mono ?_
        rintro e w1 ⟨rfl, u1⟩
        have B1 := Lib.hid (bel_trans HB.out u1)
        clear u1
        go_wp2_with fail
        go_roundw
        case rel => exact ⟨j + 1, by omega, by go_num, R.out, B1.out⟩
        case measure => simp [intOf]; omega
    · obtain rfl : j = n := by omega
      have d0 := decide_eq_false (show ¬ (j : Int) < (j : Int) by omega)
      have R := Lib.hid (any_end (p := fun z => decide (z = ys)) (by rw [HZ.out]; omega) T.out)
      go_wp2_with fail
      go_ret
      exact ⟨by rw [R.out]; rfl, HB.out⟩
theorem r8Inside_any (A : Option Addr) (n c : Nat) (zs : List Int) (B : Option Addr) (m d : Nat) (ys : List Int) (w : World) (h : Ints .i64 w A n c zs) (k : Ints .i64 w B m d ys) :
    Calls Try.prog 53 #[.slice A n c, .slice B m d] w fun e w' => e = .returned (.bool (zs.all fun z => ys.any (· == z))) ∧ w = w' := by
  have HZ := Lib.hid h.1
  have hn := h.short
  have HH := Lib.hid h
  have HK := Lib.hid k
  clear h k
  go_enter Try.func53, Try.ntmps53
  go_wp2_with fail
  go_loop [5] (fun t => ∃ j : Nat, j ≤ n ∧ t = .int .i64 j ∧ Hid (∀ z ∈ zs.take j, ys.any (· == z) = true)) (fun t => n - (intOf t).toNat)
  case atStart => exact ⟨0, Nat.zero_le _, rfl, fun z hz => by simp at hz⟩
  case round =>
    obtain ⟨j, hj, rfl, T⟩ := hrel
    by_cases hlt : j < n
    · have d0 := decide_eq_true (show (j : Int) < (n : Int) by omega)
      obtain ⟨b, off, z, rfl, _, cz, z1, z2, ez⟩ := HH.out.at hlt
      have j0 : (0 : Int) ≤ (j : Int) := by omega
      have j1 : (j : Int) < (n : Int) := by omega
      have RH := Lib.hid (fun W hW => r8Has_any B m d ys z W hW)
      cases e : ys.any (· == z)
      · rw [e] at RH
        have R := Lib.hid (show (zs.all fun z => ys.any (· == z)) = false from List.all_eq_false.2 ⟨z, mem_of_at ez.out, by rw [e]; simp⟩)
        clear e
        go_wp2_with fail
        refine (RH.out _ HK.out).mono ?_
        rintro e w1 ⟨rfl, rfl⟩
        go_wp2_with fail
        go_ret
        exact ⟨by rw [R.out]; rfl, rfl⟩
      · rw [e] at RH
        have R := Lib.hid (fun q (hq : q ∈ zs.take (j + 1)) => (show ys.any (· == q) = true from by
          rw [take_snoc' ez.out] at hq
          rcases List.mem_append.1 hq with hq | hq
          · exact T.out q hq
          · simp at hq; subst hq; exact e))
        clear e
        go_wp2_with fail
        refine (RH.out _ HK.out).mono ?_
        rintro e w1 ⟨rfl, rfl⟩
        go_wp2_with fail
        go_round
        case rel => exact ⟨j + 1, by omega, by go_num, R.out⟩
        case measure => simp [intOf]; omega
    · obtain rfl : j = n := by omega
      have d0 := decide_eq_false (show ¬ (j : Int) < (j : Int) by omega)
      have R := Lib.hid (show (zs.all fun z => ys.any (· == z)) = true from List.all_eq_true.2 (by have := T.out; rwa [List.take_of_length_le (by rw [HZ.out]; omega)] at this))
      go_wp2_with fail
      go_ret
      exact ⟨by rw [R.out]; rfl, rfl⟩
theorem maskOf_ok (n : Nat) (es : List (Nat × Nat)) (ok : FrOk n es) (x : Nat) (hx : x < 2 ^ n) (A : Option Addr) (m c : Nat) (B : Option Addr) (d : Nat) (w : World) (h : Rws w A m c (es.map erow)) (k : Ints .i64 w B (bitsTo x 10).length d (bitsTo x 10)) :
    Calls Try.prog 93 #[.agg #[.int .i64 n, .slice A m c], .slice B (bitsTo x 10).length d] w fun e w' => e = .returned (.tuple #[.int .i64 x, .bool true]) ∧ Below w.heap.size w w' := by
  have b0 := bel_alloc w (.cells #[.int .i64 n, .slice A m c] 26)
  have C0 := Cs.new w [.int .i64 n, .slice A m c] 26
  have y0 := C0.cell 0 rfl
  have y1 := C0.cell 1 rfl
  have n10 := ok.n10
  have V := Lib.hid (validFrame_any n (es.map erow) A m c _ (h.below b0))
  rw [frB_of ok] at V
  have HC := Lib.hid C0
  have B0 := Lib.hid b0
  have K := Lib.hid k
  have SP := Lib.hid (setP_bits hx)
  have x10 := pow10 n10 hx
  have OB := Lib.hid (orM_bits x10)
  have OL := Lib.hid (fun j => @orM_lt x j)
  have EL := Lib.hid (fun (j : Nat) (z : Int) (hz : (bitsTo x 10)[j]? = some z) => (show ∃ a : Nat, z = a ∧ a < 10 from by
    obtain ⟨a, e, ha, _⟩ := bitsTo_mem.1 (mem_of_at hz)
    exact ⟨a, e, ha⟩))
  obtain ⟨L, hL⟩ : ∃ l, bitsTo x 10 = l := ⟨_, rfl⟩
  rw [hL] at K SP OB OL EL ⊢
  have ll : L.length ≤ 10 := by rw [← hL]; exact bitsTo_len x 10
  clear h k C0 b0 hL ok
  go_enter Try.func93, Try.ntmps93
  go_wp2_with fail
  refine V.out.mono ?_
  rintro e w1 ⟨rfl, b1⟩
  have C1 := Lib.hid (HC.out.below b1)
  have z0 := C1.out.cell 0 rfl
  have z1 := C1.out.cell 1 rfl
  have B1 := Lib.hid (bel_trans B0.out b1)
  have K1 := Lib.hid (K.out.below B1.out)
  clear y0 y1 b1 V
  go_wp2_with fail
  refine (isSet_any B L.length d L n _ K1.out (by omega) (by omega)).mono ?_
  rintro e w2 ⟨v, rfl, hv, rfl⟩
  obtain rfl : v = true := hv.2 SP.out
  clear hv
  go_wp2_with fail
  go_loop [6, 21] (fun o t => ∃ j : Nat, j ≤ L.length ∧ t = .int .i64 j ∧ o = .int .i64 (orM (L.take j) : Nat)) (fun _ t => L.length - (intOf t).toNat)
  case atStart => exact ⟨0, Nat.zero_le _, rfl, rfl⟩
  case round =>
    obtain ⟨j, hj, rfl, rfl⟩ := hrel
    by_cases hlt : j < L.length
    · have d0 := decide_eq_true (show (j : Int) < (L.length : Int) by omega)
      obtain ⟨b, off, z, rfl, _, cz, z1', z2', ez⟩ := K1.out.at hlt
      have j0 : (0 : Int) ≤ (j : Int) := by omega
      have j1 : (j : Int) < (L.length : Int) := by omega
      obtain ⟨a, rfl, ha⟩ := EL.out j z ez.out
      have a0 : (0 : Int) ≤ (a : Int) := by omega
      have mn0 : min a 64 = a := by omega
      have hsl := shl_wrap ha
      have ol := OL.out j
      have pl := two_pow_lt ha
      have OS := Lib.hid (show orM (L.take (j + 1)) = orM (L.take j) ||| 2 ^ a by rw [take_snoc' ez.out, orM_snoc]; rfl)
      obtain ⟨q, hq⟩ : ∃ q, orM (L.take j) = q := ⟨_, rfl⟩
      rw [hq] at OS ol ⊢
      obtain ⟨r, hr⟩ : ∃ r, 2 ^ a = r := ⟨_, rfl⟩
      rw [hr] at OS pl hsl
      have hor := i64_or q r (by omega) (by omega)
      clear hq hr
      go_wp2_with fail
      go_round
      case rel => exact ⟨j + 1, by omega, by go_num, by rw [OS.out]⟩
      case measure => simp [intOf]; omega
    · obtain rfl : j = L.length := by omega
      have d0 := decide_eq_false (show ¬ (L.length : Int) < (L.length : Int) by omega)
      rw [List.take_length, OB.out]
      go_wp2_with fail
      exact bodyPost_ret (v := .tuple #[.int .i64 x, .bool true]) (by simp [results, Try.results93, go_sem]) rfl ⟨rfl, B1.out⟩
theorem isConf_ok (n : Nat) (es : List (Nat × Nat)) (ok : FrOk n es) (x : Nat) (hx : x < 2 ^ n) (A : Option Addr) (m c : Nat) (B : Option Addr) (d : Nat) (w : World) (h : Rws w A m c (es.map erow)) (k : Ints .i64 w B (bitsTo x 10).length d (bitsTo x 10)) :
    Calls Try.prog 45 #[.agg #[.int .i64 n, .slice A m c], .slice B (bitsTo x 10).length d] w fun e w' => e = .returned (.bool (freeB es x)) ∧ Below w.heap.size w w' := by
  have b0 := bel_alloc w (.cells #[.int .i64 n, .slice A m c] 26)
  have C0 := Cs.new w [.int .i64 n, .slice A m c] 26
  have y0 := C0.cell 0 rfl
  have y1 := C0.cell 1 rfl
  have MO := Lib.hid (maskOf_ok n es ok x hx A m c B d _ (h.below b0) (k.below b0))
  have HC := Lib.hid C0
  have B0 := Lib.hid b0
  have x10 := pow10 ok.n10 hx
  have DF := Lib.hid (fun W (hW : Below w.heap.size w W) => isFree_ok n es ok x x10 A m c W (h.below hW))
  clear h k C0 b0
  go_enter Try.func45, Try.ntmps45
  go_wp2_with fail
  refine MO.out.mono ?_
  rintro e w1 ⟨rfl, b1⟩
  have C1 := Lib.hid (HC.out.below b1)
  have z0 := C1.out.cell 0 rfl
  have z1 := C1.out.cell 1 rfl
  have B1 := Lib.hid (bel_trans B0.out b1)
  clear y0 y1 b1 MO
  go_wp2_with fail
  refine (DF.out _ B1.out).mono ?_
  rintro e w2 ⟨rfl, b2⟩
  have B2 := Lib.hid (bel_trans B1.out b2)
  clear b2 DF z0 z1
  go_wp2_with fail
  go_ret
  exact ⟨rfl, B2.out⟩
theorem isAdm_ok (n : Nat) (es : List (Nat × Nat)) (ok : FrOk n es) (x : Nat) (hx : x < 2 ^ n) (A : Option Addr) (m c : Nat) (B : Option Addr) (d : Nat) (w : World) (h : Rws w A m c (es.map erow)) (k : Ints .i64 w B (bitsTo x 10).length d (bitsTo x 10)) :
    Calls Try.prog 46 #[.agg #[.int .i64 n, .slice A m c], .slice B (bitsTo x 10).length d] w fun e w' => e = .returned (.bool (goodB n es x)) ∧ Below w.heap.size w w' := by
  have b0 := bel_alloc w (.cells #[.int .i64 n, .slice A m c] 26)
  have C0 := Cs.new w [.int .i64 n, .slice A m c] 26
  have y0 := C0.cell 0 rfl
  have y1 := C0.cell 1 rfl
  have MO := Lib.hid (maskOf_ok n es ok x hx A m c B d _ (h.below b0) (k.below b0))
  have HC := Lib.hid C0
  have B0 := Lib.hid b0
  have x10 := pow10 ok.n10 hx
  have DF := Lib.hid (fun W (hW : Below w.heap.size w W) => isGood_ok n es ok x x10 A m c W (h.below hW))
  clear h k C0 b0
  go_enter Try.func46, Try.ntmps46
  go_wp2_with fail
  refine MO.out.mono ?_
  rintro e w1 ⟨rfl, b1⟩
  have C1 := Lib.hid (HC.out.below b1)
  have z0 := C1.out.cell 0 rfl
  have z1 := C1.out.cell 1 rfl
  have B1 := Lib.hid (bel_trans B0.out b1)
  clear y0 y1 b1 MO
  go_wp2_with fail
  refine (DF.out _ B1.out).mono ?_
  rintro e w2 ⟨rfl, b2⟩
  have B2 := Lib.hid (bel_trans B1.out b2)
  clear b2 DF z0 z1
  go_wp2_with fail
  go_ret
  exact ⟨rfl, B2.out⟩
theorem defBy_ok (n : Nat) (es : List (Nat × Nat)) (ok : FrOk n es) (x : Nat) (hx : x < 2 ^ n) (A : Option Addr) (m c : Nat) (B : Option Addr) (d : Nat) (w : World) (h : Rws w A m c (es.map erow)) (k : Ints .i64 w B (bitsTo x 10).length d (bitsTo x 10)) :
    Calls Try.prog 44 #[.agg #[.int .i64 n, .slice A m c], .slice B (bitsTo x 10).length d] w fun e w' => ∃ A' c', e = .returned (.tuple #[.slice A' (bitsTo (dfdM n es x) 10).length c', .bool true]) ∧ OwnI w' w.heap.size A' (bitsTo (dfdM n es x) 10).length c' (bitsTo (dfdM n es x) 10) ∧ Below w.heap.size w w' := by
  have b0 := bel_alloc w (.cells #[.int .i64 n, .slice A m c] 26)
  have C0 := Cs.new w [.int .i64 n, .slice A m c] 26
  have y0 := C0.cell 0 rfl
  have y1 := C0.cell 1 rfl
  have MO := Lib.hid (maskOf_ok n es ok x hx A m c B d _ (h.below b0) (k.below b0))
  have HC := Lib.hid C0
  have B0 := Lib.hid b0
  have x10 := pow10 ok.n10 hx
  have DF := Lib.hid (fun W (hW : Below w.heap.size w W) => defended_ok n es ok x x10 A m c W (h.below hW))
  clear h k C0 b0
  have D10 := pow10 ok.n10 (dfdM_lt n es x)
  obtain ⟨q, hq⟩ : ∃ q, dfdM n es x = q := ⟨_, rfl⟩
  rw [hq] at DF D10 ⊢
  clear hq
  go_enter Try.func44, Try.ntmps44
  go_wp2_with fail
  refine MO.out.mono ?_
  rintro e w1 ⟨rfl, b1⟩
  have C1 := Lib.hid (HC.out.below b1)
  have z0 := C1.out.cell 0 rfl
  have z1 := C1.out.cell 1 rfl
  have B1 := Lib.hid (bel_trans B0.out b1)
  clear y0 y1 b1 MO
  go_wp2_with fail
  refine (DF.out _ B1.out).mono ?_
  rintro e w2 ⟨rfl, b2⟩
  have B2 := Lib.hid (bel_trans B1.out b2)
  clear b2 DF z0 z1
  go_wp2_with fail
  refine (setOf_any q D10 _).mono ?_
  rintro e w3 ⟨A3, c3, rfl, o3, u3⟩
  have O := Lib.hid (o3.mono (b2 := w.heap.size) B2.out.size)
  have B3 := Lib.hid (bel_trans B2.out u3)
  clear o3 u3
  go_wp2_with fail
  exact bodyPost_ret (v := .tuple #[.slice A3 (bitsTo q 10).length c3, .bool true]) (by simp [results, Try.results44, go_sem]) rfl ⟨A3, c3, rfl, O.out, B3.out⟩
end Go.Proofs.Yteejfjgofpolkaa
