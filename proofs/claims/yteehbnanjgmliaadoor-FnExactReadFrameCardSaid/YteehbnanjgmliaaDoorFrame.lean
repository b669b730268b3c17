/- Frames of arguments: the program's small functions. -/
import Derived.Test.YteehbnanjgmliaaDoorMask
import Derived.Test.YteehbnanjgmliaaDoorR8
import Derived.Test.YteehbnanjgmliaaDoorRws
import Derived.Test.YteehbnanjgmliaaDoorOwnN
import Derived.Test.YteehbnanjgmliaaDoorPhase
import Derived.Test.YteehbnanjgmliaaDoorSealWalks
import Derived.Test.YteehbnanjgmliaaDoorCells
import Derived.Deep.QuietTactic
import Derived.BigQuiet
namespace Go.Proofs.YteehbnanjgmliaaDoor
set_option linter.unusedVariables false
set_option linter.unusedSimpArgs false
set_option maxRecDepth 100000
open Go.RowKit
/-- The numbers below k whose bits are set. -/
def bitsTo (m k : Nat) : List Int := ((List.range k).filter fun i => m.testBit i).map fun i : Nat => (i : Int)
theorem bitsTo_succ (m k : Nat) : bitsTo m (k + 1) = bitsTo m k ++ (if m.testBit k then [((k : Nat) : Int)] else []) := by
  unfold bitsTo
  rw [List.range_succ, List.filter_append, List.map_append]
  congr 1
  cases h : m.testBit k <;> simp [h]
theorem bitsTo_len (m k : Nat) : (bitsTo m k).length ≤ k := by unfold bitsTo; rw [List.length_map]; exact Nat.le_trans (List.length_filter_le _ _) (by simp)
theorem bitsTo_end {m i : Nat} (h : m < 2 ^ i) : ∀ k, i ≤ k → bitsTo m k = bitsTo m i := by
  intro k hk
  induction k with
  | zero => obtain rfl : i = 0 := by omega
            rfl
  | succ k ih =>
    rcases Nat.lt_or_ge k i with h1 | h1
    · obtain rfl : i = k + 1 := by omega
      rfl
    · rw [bitsTo_succ, ih h1, Nat.testBit_lt_two_pow (Nat.lt_of_lt_of_le h (Nat.pow_le_pow_right (by omega) h1))]
      simp
theorem bitsTo_mem {m k : Nat} {z : Int} : z ∈ bitsTo m k ↔ ∃ i : Nat, z = i ∧ i < k ∧ m.testBit i = true := by
  unfold bitsTo
  simp only [List.mem_map, List.mem_filter, List.mem_range]
  constructor
  · rintro ⟨i, ⟨h1, h2⟩, rfl⟩; exact ⟨i, rfl, h1, h2⟩
  · rintro ⟨i, rfl, h1, h2⟩; exact ⟨i, ⟨h1, h2⟩, rfl⟩
theorem div_cast (m i : Nat) : (m : Int) / 2 ^ i = ((m / 2 ^ i : Nat) : Int) := by simp
theorem shr_and (m i : Nat) (hm : m < 4611686018427387904) : bits .and .i64 ((m : Int) / 2 ^ i) 1 = ((if m.testBit i then 1 else 0 : Nat) : Int) := by
  have h1 : m / 2 ^ i ≤ m := Nat.div_le_self _ _
  rw [div_cast, show (1 : Int) = ((1 : Nat) : Int) from rfl, i64_and _ _ (by omega) (by omega), nat_mask1, bit_div]
  have h2 : m / 2 ^ i % 2 < 2 := Nat.mod_lt _ (by omega)
  by_cases h : m / 2 ^ i % 2 = 1
  · simp [h]
  · have : m / 2 ^ i % 2 = 0 := by omega
    simp [this]
theorem shr_one {m i : Nat} (hm : m < 4611686018427387904) (h : m.testBit i = true) : bits .and .i64 ((m : Int) / 2 ^ i) 1 = 1 := by rw [shr_and m i hm, h]; rfl
theorem shr_zero {m i : Nat} (hm : m < 4611686018427387904) (h : m.testBit i = false) : bits .and .i64 ((m : Int) / 2 ^ i) 1 = 0 := by rw [shr_and m i hm, h]; rfl
/-- An attack as a row. -/
def erow (p : Nat × Nat) : List Int := [(p.1 : Int), (p.2 : Int)]
def lt2 (p q : Nat × Nat) : Prop := p.1 < q.1 ∨ p.1 = q.1 ∧ p.2 < q.2
structure FrOk (n : Nat) (es : List (Nat × Nat)) : Prop where
  n10 : n ≤ 10
  inn : ∀ p ∈ es, p.1 < n ∧ p.2 < n
  lt : ∀ (i : Nat) (p q : Nat × Nat), es[i]? = some p → es[i + 1]? = some q → lt2 p q
theorem nanI_any (x : Int) (w : World) : Calls Tryd.prog 63 #[.int .i64 x] w fun e w' => e = .returned (.bool false) ∧ w = w' := by
  have q : (x != x) = false := by simp
  go_enter Tryd.func63, Tryd.ntmps63
  go_wp2_with fail
  go_ret
  exact ⟨rfl, rfl⟩
theorem cmpI_any (x y : Int) (w : World) : Calls Tryd.prog 50 #[.int .i64 x, .int .i64 y] w fun e w' => e = .returned (.int .i64 (if x < y then -1 else if y < x then 1 else 0)) ∧ w = w' := by
  by_cases h1 : x < y
  · go_enter Tryd.func50, Tryd.ntmps50
    go_wp2_with (go_at_call 63; refine (nanI_any _ _).mono ?_; rintro e w' ⟨rfl, rfl⟩)
    go_ret
    exact ⟨rfl, rfl⟩
  · by_cases h2 : y < x
    · go_enter Tryd.func50, Tryd.ntmps50
      go_wp2_with (go_at_call 63; refine (nanI_any _ _).mono ?_; rintro e w' ⟨rfl, rfl⟩)
      go_ret
      exact ⟨rfl, rfl⟩
    · go_enter Tryd.func50, Tryd.ntmps50
      go_wp2_with (go_at_call 63; refine (nanI_any _ _).mono ?_; rintro e w' ⟨rfl, rfl⟩)
      go_ret
      exact ⟨rfl, rfl⟩
theorem compare_lt (A : Option Addr) (c : Nat) (B : Option Addr) (d : Nat) (p q : Nat × Nat) (hlt : lt2 p q) (w : World) (h : Ints .i64 w A 2 c (erow p)) (k : Ints .i64 w B 2 d (erow q)) :
    Calls Tryd.prog 36 #[.slice A 2 c, .slice B 2 d] w fun e w' => e = .returned (.int .i64 (-1)) ∧ w = w' := by
  obtain ⟨x, y⟩ := p
  obtain ⟨u, v⟩ := q
  obtain ⟨bA, oA, rfl, hbA, hcA⟩ := h.2.2.2.2 (by omega)
  obtain ⟨bB, oB, rfl, hbB, hcB⟩ := k.2.2.2.2 (by omega)
  have a0 := hcA 0 x rfl
  have a1 := hcA 1 y rfl
  have b0 := hcB 0 u rfl
  have b1 := hcB 1 v rfl
  unfold lt2 at hlt
  simp only at hlt
  rw [Nat.add_zero] at a0 b0
  clear hcA hcB h k
  go_enter Tryd.func36, Tryd.ntmps36
  go_wp2_with fail
  go_loop [11] (fun t => ∃ i : Nat, i ≤ 1 ∧ t = .int .i64 i ∧ (i = 1 → x = u)) (fun t => 2 - (intOf t).toNat)
  case atStart => exact ⟨0, by omega, rfl, fun h => absurd h (by omega)⟩
  case round =>
    obtain ⟨i, hi, rfl, he⟩ := hrel
    rcases (show i = 0 ∨ i = 1 by omega) with rfl | rfl
    · by_cases h1 : (x : Int) < (u : Int)
      · have hq : (if (x : Int) < (u : Int) then (-1 : Int) else if (u : Int) < (x : Int) then 1 else 0) = -1 := if_pos h1
        go_wp2_with (go_at_call 50; refine (cmpI_any _ _ _).mono ?_; rintro e w' ⟨rfl, rfl⟩; rw [hq])
        go_ret
        exact ⟨rfl, rfl⟩
      · have hxu := Lib.hid (show x = u by omega)
        have hq : (if (x : Int) < (u : Int) then (-1 : Int) else if (u : Int) < (x : Int) then 1 else 0) = 0 := by rw [if_neg h1, if_neg (by omega)]
        clear h1 hlt
        go_wp2_with (go_at_call 50; refine (cmpI_any _ _ _).mono ?_; rintro e w' ⟨rfl, rfl⟩; rw [hq])
        go_round
        case rel => exact ⟨1, by omega, by go_num, fun _ => hxu.out⟩
        case measure => simp [intOf]
    · have h1 : (y : Int) < (v : Int) := by have := he rfl; omega
      have hq : (if (y : Int) < (v : Int) then (-1 : Int) else if (v : Int) < (y : Int) then 1 else 0) = -1 := if_pos h1
      go_wp2_with (go_at_call 50; refine (cmpI_any _ _ _).mono ?_; rintro e w' ⟨rfl, rfl⟩; rw [hq])
      go_ret
      exact ⟨rfl, rfl⟩
theorem erow_at {es : List (Nat × Nat)} {i : Nat} {w : World} {A : Option Addr} {m c : Nat} (h : Rws w A m c (es.map erow)) (hi : i < m) :
    ∃ b off p A' c', A = some ⟨b, off, none⟩ ∧ b < w.heap.size ∧ es[i]? = some p ∧ w.cell? ⟨b, off + i, none⟩ = some (.slice A' 2 c') ∧ Ints .i64 w A' 2 c' (erow p) := by
  obtain ⟨b, off, A', k, c', zs, rfl, hb, hc, ik, hz⟩ := h.at hi
  have hz := hz.out
  rw [List.getElem?_map] at hz
  obtain ⟨p, hp, rfl⟩ := Option.map_eq_some_iff.1 hz
  obtain rfl : k = 2 := ik.1.symm
  exact ⟨b, off, p, A', c', rfl, hb, hp, hc, ik⟩
theorem within_v {n a b : Int} {v : Bool} (h : inR n a b = v) (w : World) : Calls Tryd.prog 23 #[.int .i64 n, .int .i64 a, .int .i64 b] w fun e w' => e = .returned (.bool v) ∧ w = w' := by subst h; exact within_any n a b w
set_option maxHeartbeats 2000000 in
theorem validFrame_ok (n : Nat) (es : List (Nat × Nat)) (ok : FrOk n es) (A : Option Addr) (m c : Nat) (w : World) (h : Rws w A m c (es.map erow)) :
    Calls Tryd.prog 25 #[.agg #[.int .i64 n, .slice A m c]] w fun e w' => e = .returned (.bool true) ∧ Below w.heap.size w w' := by
  have b0 := bel_alloc w (.cells #[.int .i64 n, .slice A m c] 24)
  have C0 := Lib.hid (Cs.new w [.int .i64 n, .slice A m c] 24)
  have y0 := C0.out.cell 0 rfl
  have y1 := C0.out.cell 1 rfl
  have hm := h.short
  have n10 := ok.n10
  have HN := Lib.hid (show inR (n : Int) 0 10 = true from inR_true.2 (by omega))
  have OK := Lib.hid ok
  have B0 := Lib.hid b0
  clear ok
  go_enter Tryd.func25, Tryd.ntmps25
  go_wp2_with fail
  clear y0 y1
  go_loopw [8] (fun t wr => ∃ i : Nat, i ≤ m ∧ t = .int .i64 i ∧ Below (w.alloc (.cells #[.int .i64 n, .slice A m c] 24)).heap.size (w.alloc (.cells #[.int .i64 n, .slice A m c] 24)) wr) (fun t _ => m - (intOf t).toNat)
  case atStart => exact ⟨0, Nat.zero_le _, rfl, Below.refl _ _⟩
  case round =>
    obtain ⟨i, hi, rfl, hbel⟩ := hrel
    have HB := Lib.hid hbel
    have CR := Lib.hid (C0.out.below hbel)
    have y0 := CR.out.cell 0 rfl
    have y1 := CR.out.cell 1 rfl
    have bw := Lib.hid (bel_trans B0.out hbel)
    clear hbel
    by_cases hlt : i < m
    · obtain ⟨b, off, p, Ai, ci, rfl, hb, hp, hc, ip⟩ := erow_at (h.below bw.out) hlt
      have hpi := OK.out.inn p (List.mem_of_getElem? hp)
      obtain ⟨bA, oA, rfl, hbA, hcA⟩ := ip.2.2.2.2 (by omega)
      have a0 := hcA 0 (p.1 : Int) rfl
      have a1 := hcA 1 (p.2 : Int) rfl
      rw [Nat.add_zero] at a0
      have IP := Lib.hid ip
      have W0 := Lib.hid (show inR (p.1 : Int) 0 ((n : Int) - 1) = true from inR_true.2 (by omega))
      have W1 := Lib.hid (show inR (p.2 : Int) 0 ((n : Int) - 1) = true from inR_true.2 (by omega))
      have ew : IntKind.i64.wrap ((n : Int) - 1) = (n : Int) - 1 := IntWalk.i64_in _ (by omega)
      have hdi : decide ((i : Int) < (m : Int)) = true := by simp; omega
      have P := Lib.hid hp
      have NXT := Lib.hid (show ∃ k : Nat, k ≤ m ∧ (Value.int .i64 ((i : Int) + 1)) = .int .i64 (k : Int) ∧ k = i + 1 from ⟨i + 1, by omega, by go_num, rfl⟩)
      clear hcA ip hp
      rcases i with _ | k
      · rw [Nat.add_zero] at hc
        go_wp2_with fail
        go_quiet ((go_at_call 23; exact quiet_left (within_v (v := true) (by first | exact W0.out | exact W1.out) _)))
        go_wp2_with fail
        go_roundw
        case rel => exact ⟨1, by omega, by go_num, below_drewN HB.out _⟩
        case measure => simp [intOf]; omega
      · obtain ⟨b', off', p', Ai', ci', e1, hb', hp', hc', ip'⟩ := erow_at (h.below bw.out) (i := k) (by omega)
        simp only [Option.some.injEq, Addr.mk.injEq, and_true] at e1
        obtain ⟨rfl, rfl⟩ := e1
        have LT := Lib.hid (OK.out.lt k p' p hp' P.out)
        have IQ := Lib.hid ip'
        have ek : ((k + 1 : Nat) : Int) - 1 = (k : Int) := by omega
        have ek2 : IntKind.i64.wrap (((k + 1 : Nat) : Int) - 1) = (k : Int) := by rw [ek]; exact IntWalk.i64_in _ (by omega)
        clear hp' ip'
        go_wp2_with fail
        go_quiet ((first | (go_at_call 23; exact quiet_left (within_v (v := true) (by first | exact W0.out | exact W1.out) _)) | (go_at_call 36; exact quiet_left (compare_lt _ _ _ _ p' p LT.out _ (by exact IQ.out) (by exact IP.out)))))
        go_wp2_with fail
        go_roundw
        case rel => exact ⟨k + 1 + 1, by omega, by go_num, below_drewN HB.out _⟩
        case measure => simp [intOf]; omega
    · have hdi : decide ((i : Int) < (m : Int)) = false := by simp; omega
      go_wp2_with fail
      refine (within_v HN.out _).mono ?_
      rintro e w' ⟨rfl, rfl⟩
      go_wp2_with fail
      go_ret
      exact ⟨rfl, bw.out⟩
end Go.Proofs.YteehbnanjgmliaaDoor
