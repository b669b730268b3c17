/- Slices of proofs, and ballots: the laws' helpers on them. -/
import Derived.Test.YtnjnngnagdhaiaaProof3
import Derived.Test.YtnjnngnagdhaiaaProofAt
import Derived.Deep.RegionHeld3
namespace Go.Proofs.Ytnjnngnagdhaiaa
set_option linter.unusedVariables false
set_option maxRecDepth 100000
open Go.RowKit
/-- A proof as its three lists. -/
structure Bp where
  ms : List Int
  cs : List Int
  as_ : List Int
/-- What lies at a place is a proof. -/
def BpAt (w : World) (b o : Nat) (p : Bp) : Prop :=
  ∃ A n c B m d C k f, w.cell? ⟨b, o, none⟩ = some (.slice A n c) ∧ w.cell? ⟨b, o + 1, none⟩ = some (.slice B m d) ∧ w.cell? ⟨b, o + 2, none⟩ = some (.slice C k f) ∧ Ints .i64 w A n c p.ms ∧ Ints .i64 w B m d p.cs ∧ Ints .i64 w C k f p.as_
theorem BpAt.below {w w' : World} {b o : Nat} {p : Bp} (h : BpAt w b o p) (hl : b < w.heap.size) (hb : Below w.heap.size w w') : BpAt w' b o p := by
  obtain ⟨A, n, c, B, m, d, C, k, f, h1, h2, h3, i1, i2, i3⟩ := h
  exact ⟨A, n, c, B, m, d, C, k, f, (hb.cell (p := ⟨b, o, none⟩) hl).trans h1, (hb.cell (p := ⟨b, o + 1, none⟩) hl).trans h2, (hb.cell (p := ⟨b, o + 2, none⟩) hl).trans h3, i1.below hb, i2.below hb, i3.below hb⟩
def Bps (w : World) (A : Option Addr) (n c : Nat) (ps : List Bp) : Prop :=
  ps.length = n ∧ n ≤ c ∧ c ≤ maxLen ∧ (0 < n → ∃ b off, A = some ⟨b, off, none⟩ ∧ b < w.heap.size ∧ ∀ (j : Nat) (p : Bp), ps[j]? = some p → BpAt w b (off + j * 3) p)
theorem Bps.below {w w' : World} {A : Option Addr} {n c : Nat} {ps : List Bp} (h : Bps w A n c ps) (hb : Below w.heap.size w w') : Bps w' A n c ps := by
  obtain ⟨h1, h2, h3, h5⟩ := h
  refine ⟨h1, h2, h3, fun hn => ?_⟩
  obtain ⟨b, off, hA, hbk, hc⟩ := h5 hn
  exact ⟨b, off, hA, Nat.lt_of_lt_of_le hbk hb.size, fun j p hp => (hc j p hp).below hbk hb⟩
theorem Bps.short {w : World} {A : Option Addr} {n c : Nat} {ps : List Bp} (h : Bps w A n c ps) : n ≤ 9223372036854775807 := by
  have := h.2.1; have := h.2.2.1; unfold maxLen at *; omega
theorem Bps.at {w : World} {A : Option Addr} {n c j : Nat} {ps : List Bp} (h : Bps w A n c ps) (hj : j < n) :
    ∃ b off p, A = some ⟨b, off, none⟩ ∧ b < w.heap.size ∧ BpAt w b (off + j * 3) p ∧ Hid (ps[j]? = some p) := by
  obtain ⟨h1, h2, h3, h5⟩ := h
  obtain ⟨b, off, hA, hb, hc⟩ := h5 (by omega)
  exact ⟨b, off, _, hA, hb, hc j _ (List.getElem?_eq_getElem (by omega)), List.getElem?_eq_getElem (by omega)⟩
theorem bps_nil (w : World) : Bps w none 0 0 [] := ⟨rfl, Nat.le_refl _, by unfold maxLen; omega, fun h => absurd h (by omega)⟩
def bpLen (p : Bp) : Nat := p.ms.length + p.cs.length + p.as_.length
theorem szBP_ok {n m k : Nat} {left : Int} (h : left ≤ 1048576) : szBP n m k left = -1 ∨ (0 ≤ szBP n m k left ∧ szBP n m k left ≤ left ∧ (n : Int) ≤ 1048576 ∧ (m : Int) ≤ 1048576 ∧ (k : Int) ≤ 1048576) := by
  by_cases h1 : left - n < 0
  · exact .inl (by simp [szBP, szI, h1])
  · by_cases h2 : left - n - m < 0
    · exact .inl (by simp [szBP, szI, h1, h2])
    · by_cases h3 : left - n - m - k < 0
      · exact .inl (by simp [szBP, szI, h1, h2, h3])
      · have e : szBP n m k left = left - n - m - k := by simp [szBP, szI, h1, h2, h3]
        rw [e]
        exact .inr (by omega)
/-- The proofs are too many, or all their lists are short. -/
def SzP (n : Nat) (ps : List Bp) (left r : Int) : Prop := r = -1 ∨ (0 ≤ r ∧ r ≤ left ∧ (n : Int) ≤ left ∧ ∀ p ∈ ps, p.ms.length ≤ 1048576 ∧ p.cs.length ≤ 1048576 ∧ p.as_.length ≤ 1048576)
set_option maxHeartbeats 1000000 in
theorem szBitProofS_any (A : Option Addr) (n c : Nat) (ps : List Bp) (left : Int) (w : World) (h : Bps w A n c ps) (h0 : 0 ≤ left) (h1 : left ≤ 1048576) :
    Calls Try.prog 77 #[.slice A n c, .int .i64 left] w fun e w' => ∃ r, e = .returned (.int .i64 r) ∧ SzP n ps left r ∧ Below w.heap.size w w' := by
  have hm := h.short
  have hl := Lib.hid h.1
  by_cases hs : left - n < 0
  · go_enter Try.func77, Try.ntmps77
    go_wp2_with fail
    go_ret
    exact ⟨-1, rfl, .inl rfl, Below.refl _ _⟩
  · go_enter Try.func77, Try.ntmps77
    go_wp2_with fail
    go_loopw [1, 5] (fun r i wr => ∃ (j : Nat) (l : Int), j ≤ n ∧ i = .int .i64 j ∧ r = .int .i64 l ∧ 0 ≤ l ∧ l ≤ left - n ∧ (∀ p ∈ ps.take j, p.ms.length ≤ 1048576 ∧ p.cs.length ≤ 1048576 ∧ p.as_.length ≤ 1048576) ∧ Below w.heap.size w wr) (fun _ i _ => n - (intOf i).toNat)
    case atStart => exact ⟨0, _, Nat.zero_le _, rfl, rfl, by omega, by omega, by simp, Below.refl _ _⟩
    case round =>
      obtain ⟨j, l, hj, rfl, rfl, hl0, hl1, hall, hbel⟩ := hrel
      have HA := Lib.hid hall
      clear hall
      by_cases hlt : j < n
      · obtain ⟨b, off, p, rfl, hb, ⟨A1, n1, c1, B1, m1, d1, C1, k1, f1, q0, q1, q2, i1, i2, i3⟩, hp⟩ := (h.below hbel).at hlt
        have s1 := i1.2.1
        have s2 := i2.2.1
        have s3 := i3.2.1
        have t1 := i1.2.2.1
        have t2 := i2.2.2.1
        have t3 := i3.2.2.1
        have L1 := Lib.hid i1.1
        have L2 := Lib.hid i2.1
        have L3 := Lib.hid i3.1
        clear i1 i2 i3
        have SO := szBP_ok (n := n1) (m := m1) (k := k1) (left := l) (by omega)
        obtain ⟨r, hr⟩ : ∃ r, szBP n1 m1 k1 l = r := ⟨_, rfl⟩
        rw [hr] at SO
        have HR := Lib.hid hr
        clear hr
        go_wp2_with fail
        refine (szBitProof_any A1 n1 c1 B1 m1 d1 C1 k1 f1 l _ (by omega) (by omega) (by omega) hl0 (by omega)).mono ?_
        rintro e w1 ⟨rfl, b1⟩
        rw [HR.out]
        have bel1 := bel_trans hbel b1
        rcases SO with rfl | ⟨r0, r1, r2, r3, r4⟩
        · go_wp2_with fail
          go_ret
          exact ⟨-1, rfl, .inl rfl, bel1⟩
        · have HA2 : Hid (∀ p ∈ ps.take (j + 1), p.ms.length ≤ 1048576 ∧ p.cs.length ≤ 1048576 ∧ p.as_.length ≤ 1048576) := by
            intro x hx
            rw [take_snoc' hp.out] at hx
            rcases List.mem_append.1 hx with hx | hx
            · exact HA.out x hx
            · simp at hx; subst hx; rw [L1.out, L2.out, L3.out]; omega
          go_wp2_with fail
          go_roundw
          case rel => exact ⟨j + 1, r, by omega, by go_num, rfl, r0, by omega, HA2.out, bel1⟩
          case measure => simp [intOf]; omega
      · obtain rfl : n = j := by omega
        have HE : Hid (ps.take n = ps) := List.take_of_length_le (by rw [hl.out]; omega)
        go_wp2_with fail
        go_ret
        refine ⟨l, rfl, .inr ⟨hl0, by omega, by omega, ?_⟩, hbel⟩
        have := HA.out
        rwa [HE.out] at this
set_option maxHeartbeats 1000000 in
theorem eqBitProofS_same (A : Option Addr) (n c : Nat) (ps : List Bp) (B : Option Addr) (d : Nat) (w : World) (h : Bps w A n c ps) (k : Bps w B n d ps) :
    Calls Try.prog 80 #[.slice A n c, .slice B n d] w fun e w' => e = .returned (.bool true) ∧ Below w.heap.size w w' := by
  have hm := h.short
  have qn : ((n : Int) != (n : Int)) = false := by simp
  go_enter Try.func80, Try.ntmps80
  go_wp2_with fail
  go_loopw [5] (fun i wr => ∃ (j : Nat), j ≤ n ∧ i = .int .i64 j ∧ Below w.heap.size w wr) (fun i _ => n - (intOf i).toNat)
  case atStart => exact ⟨0, Nat.zero_le _, rfl, Below.refl _ _⟩
  case round =>
    obtain ⟨j, hj, rfl, hbel⟩ := hrel
    by_cases hlt : j < n
    · obtain ⟨b, off, p, rfl, hb, ⟨A1, n1, c1, B1, m1, d1, C1, k1, f1, q0, q1, q2, i1, i2, i3⟩, hp⟩ := (h.below hbel).at hlt
      obtain ⟨b', off', p', rfl, hb', ⟨A2, n2, c2, B2, m2, d2, C2, k2, f2, r0, r1, r2, j1, j2, j3⟩, hp'⟩ := (k.below hbel).at hlt
      obtain rfl : p = p' := by have := hp'.out; rw [hp.out] at this; simpa using this
      obtain rfl : n1 = n2 := by rw [← i1.1, ← j1.1]
      obtain rfl : m1 = m2 := by rw [← i2.1, ← j2.1]
      obtain rfl : k1 = k2 := by rw [← i3.1, ← j3.1]
      have s1 := i1.2.1
      have s2 := i2.2.1
      have s3 := i3.2.1
      have t1 := i1.2.2.1
      have t2 := i2.2.2.1
      have t3 := i3.2.2.1
      have EQ := Lib.hid (fun W (hb : Below wr.heap.size wr W) => eqBitProof_same A1 n1 c1 p.ms B1 m1 d1 p.cs C1 k1 f1 p.as_ A2 c2 B2 d2 C2 f2 W (i1.below hb) (i2.below hb) (i3.below hb) (j1.below hb) (j2.below hb) (j3.below hb))
      clear i1 i2 i3 j1 j2 j3
      have SS := Lib.hid (fun (W : World) (bb : Below wr.heap.size wr W) => show W.cell? ⟨b, off + j * 3, none⟩ = some (.slice A1 n1 c1) ∧ W.cell? ⟨b, off + j * 3 + 1, none⟩ = some (.slice B1 m1 d1) ∧ W.cell? ⟨b, off + j * 3 + 2, none⟩ = some (.slice C1 k1 f1) ∧ W.cell? ⟨b', off' + j * 3, none⟩ = some (.slice A2 n1 c2) ∧ W.cell? ⟨b', off' + j * 3 + 1, none⟩ = some (.slice B2 m1 d2) ∧ W.cell? ⟨b', off' + j * 3 + 2, none⟩ = some (.slice C2 k1 f2) from
        ⟨(bb.cell (p := ⟨b, off + j * 3, none⟩) hb).trans q0, (bb.cell (p := ⟨b, off + j * 3 + 1, none⟩) hb).trans q1, (bb.cell (p := ⟨b, off + j * 3 + 2, none⟩) hb).trans q2, (bb.cell (p := ⟨b', off' + j * 3, none⟩) hb').trans r0, (bb.cell (p := ⟨b', off' + j * 3 + 1, none⟩) hb').trans r1, (bb.cell (p := ⟨b', off' + j * 3 + 2, none⟩) hb').trans r2⟩)
      have s0 := SS.out _ (Below.refl _ _)
      have t0 : Below wr.heap.size wr wr.drew := (Below.refl _ _).drew
      clear q0 q1 q2 r0 r1 r2
      go_wp2_with fail
      go_region_held3 (fun w' => w'.cell? ⟨b, off + j * 3, none⟩ = some (.slice A1 n1 c1) ∧ w'.cell? ⟨b, off + j * 3 + 1, none⟩ = some (.slice B1 m1 d1) ∧ w'.cell? ⟨b, off + j * 3 + 2, none⟩ = some (.slice C1 k1 f1) ∧ w'.cell? ⟨b', off' + j * 3, none⟩ = some (.slice A2 n1 c2) ∧ w'.cell? ⟨b', off' + j * 3 + 1, none⟩ = some (.slice B2 m1 d2) ∧ w'.cell? ⟨b', off' + j * 3 + 2, none⟩ = some (.slice C2 k1 f2)) (first | exact s0 | exact SS.out _ t0 | exact SS.out _ tw | exact SS.out _ (Below.refl _ _)) (first | (go_at_call 20; refine (EQ.out _ (by first | exact t0 | exact Below.refl _ _)).mono ?_; rintro e w5 ⟨rfl, t5⟩; have tw : Below wr.heap.size wr w5 := ⟨t5.os, t5.tape, t5.output, t5.size, t5.block⟩))
      have bel5 := bel_trans hbel tw
      go_wp2_with fail
      go_roundw
      case rel => exact ⟨j + 1, by omega, by go_num, bel5⟩
      case measure => simp [intOf]; omega
    · go_wp2_with fail
      go_ret
      exact ⟨rfl, hbel⟩
end Go.Proofs.Ytnjnngnagdhaiaa
