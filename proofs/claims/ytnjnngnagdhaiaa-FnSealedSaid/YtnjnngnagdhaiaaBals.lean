/- Slices of ballots: the laws' helpers on them. -/
import Derived.Test.YtnjnngnagdhaiaaIsBal
namespace Go.Proofs.Ytnjnngnagdhaiaa
set_option linter.unusedVariables false
set_option maxRecDepth 100000
open Go.RowKit
structure Bal where
  ss : List Int
  ps : List Bp
  key : Int
/-- What lies at a place is a ballot. -/
def BalAt (w : World) (b o : Nat) (q : Bal) : Prop :=
  ∃ A n c B m d, w.cell? ⟨b, o, none⟩ = some (.slice A n c) ∧ w.cell? ⟨b, o + 1, none⟩ = some (.slice B m d) ∧ w.cell? ⟨b, o + 2, none⟩ = some (.int .i64 q.key) ∧ Ints .i64 w A n c q.ss ∧ Bps w B m d q.ps
theorem BalAt.below {w w' : World} {b o : Nat} {q : Bal} (h : BalAt w b o q) (hl : b < w.heap.size) (hb : Below w.heap.size w w') : BalAt w' b o q := by
  obtain ⟨A, n, c, B, m, d, h1, h2, h3, i1, i2⟩ := h
  exact ⟨A, n, c, B, m, d, (hb.cell (p := ⟨b, o, none⟩) hl).trans h1, (hb.cell (p := ⟨b, o + 1, none⟩) hl).trans h2, (hb.cell (p := ⟨b, o + 2, none⟩) hl).trans h3, i1.below hb, i2.below hb⟩
def Bals (w : World) (A : Option Addr) (n c : Nat) (qs : List Bal) : Prop :=
  qs.length = n ∧ n ≤ c ∧ c ≤ maxLen ∧ (0 < n → ∃ b off, A = some ⟨b, off, none⟩ ∧ b < w.heap.size ∧ ∀ (j : Nat) (q : Bal), qs[j]? = some q → BalAt w b (off + j * 3) q)
theorem Bals.below {w w' : World} {A : Option Addr} {n c : Nat} {qs : List Bal} (h : Bals w A n c qs) (hb : Below w.heap.size w w') : Bals w' A n c qs := by
  obtain ⟨h1, h2, h3, h5⟩ := h
  refine ⟨h1, h2, h3, fun hn => ?_⟩
  obtain ⟨b, off, hA, hbk, hc⟩ := h5 hn
  exact ⟨b, off, hA, Nat.lt_of_lt_of_le hbk hb.size, fun j p hp => (hc j p hp).below hbk hb⟩
theorem Bals.short {w : World} {A : Option Addr} {n c : Nat} {qs : List Bal} (h : Bals w A n c qs) : n ≤ 9223372036854775807 := by
  have := h.2.1; have := h.2.2.1; unfold maxLen at *; omega
theorem Bals.at {w : World} {A : Option Addr} {n c j : Nat} {qs : List Bal} (h : Bals w A n c qs) (hj : j < n) :
    ∃ b off q, A = some ⟨b, off, none⟩ ∧ b < w.heap.size ∧ BalAt w b (off + j * 3) q ∧ Hid (qs[j]? = some q) := by
  obtain ⟨h1, h2, h3, h5⟩ := h
  obtain ⟨b, off, hA, hb, hc⟩ := h5 (by omega)
  exact ⟨b, off, _, hA, hb, hc j _ (List.getElem?_eq_getElem (by omega)), List.getElem?_eq_getElem (by omega)⟩
theorem bals_nil (w : World) : Bals w none 0 0 [] := ⟨rfl, Nat.le_refl _, by unfold maxLen; omega, fun h => absurd h (by omega)⟩
/-- A ballot whose lists are short. -/
def SmallQ (q : Bal) : Prop := q.ss.length ≤ 1048576 ∧ q.ps.length ≤ 1048576 ∧ ∀ p ∈ q.ps, p.ms.length ≤ 1048576 ∧ p.cs.length ≤ 1048576 ∧ p.as_.length ≤ 1048576
def SzQ (n : Nat) (qs : List Bal) (r : Int) : Prop := r = -1 ∨ (0 ≤ r ∧ r ≤ 1048576 ∧ n ≤ 1048576 ∧ ∀ q ∈ qs, SmallQ q)
set_option maxHeartbeats 1000000 in
theorem szBallotS_any (A : Option Addr) (n c : Nat) (qs : List Bal) (left : Int) (w : World) (h : Bals w A n c qs) (h0 : 0 ≤ left) (h1 : left ≤ 1048576) :
    Calls Try.prog 45 #[.slice A n c, .int .i64 left] w fun e w' => ∃ r, e = .returned (.int .i64 r) ∧ SzQ n qs r ∧ Below w.heap.size w w' := by
  have hm := h.short
  have hl := Lib.hid h.1
  by_cases hs : left - n < 0
  · go_enter Try.func45, Try.ntmps45
    go_wp2_with fail
    go_ret
    exact ⟨-1, rfl, .inl rfl, Below.refl _ _⟩
  · go_enter Try.func45, Try.ntmps45
    go_wp2_with fail
    go_loopw [1, 5] (fun r i wr => ∃ (j : Nat) (l : Int), j ≤ n ∧ i = .int .i64 j ∧ r = .int .i64 l ∧ 0 ≤ l ∧ l ≤ 1048576 ∧ (∀ p ∈ qs.take j, SmallQ p) ∧ Below w.heap.size w wr) (fun _ i _ => n - (intOf i).toNat)
    case atStart => exact ⟨0, _, Nat.zero_le _, rfl, rfl, by omega, by omega, by simp, Below.refl _ _⟩
    case round =>
      obtain ⟨j, l, hj, rfl, rfl, hl0, hl1, hall, hbel⟩ := hrel
      have HA := Lib.hid hall
      clear hall
      by_cases hlt : j < n
      · obtain ⟨b, off, p, rfl, hb, ⟨A1, n1, c1, B1, m1, d1, q0, q1, q2, i1, i2⟩, hp⟩ := (h.below hbel).at hlt
        have SB := Lib.hid (szBallot_any A1 n1 c1 p.ss B1 m1 d1 p.ps p.key l wr i1 i2 hl0 hl1)
        have L1 := Lib.hid i1.1
        have L2 := Lib.hid i2.1
        clear i1 i2
        go_wp2_with fail
        refine SB.out.mono ?_
        rintro e w1 ⟨r, rfl, hr, b1⟩
        have bel1 := bel_trans hbel b1
        rcases hr with rfl | ⟨r0, r1, r2, r3, r4⟩
        · go_wp2_with fail
          go_ret
          exact ⟨-1, rfl, .inl rfl, bel1⟩
        · have HA2 : Hid (∀ p ∈ qs.take (j + 1), SmallQ p) := by
            intro x hx
            rw [take_snoc' hp.out] at hx
            rcases List.mem_append.1 hx with hx | hx
            · exact HA.out x hx
            · simp at hx; subst hx; exact ⟨by rw [L1.out]; exact r2, by rw [L2.out]; exact r3, r4⟩
          clear r4
          go_wp2_with fail
          go_roundw
          case rel => exact ⟨j + 1, r, by omega, by go_num, rfl, r0, r1, HA2.out, bel1⟩
          case measure => simp [intOf]; omega
      · obtain rfl : n = j := by omega
        have HE : Hid (qs.take n = qs) := List.take_of_length_le (by rw [hl.out]; omega)
        go_wp2_with fail
        go_ret
        refine ⟨l, rfl, .inr ⟨hl0, hl1, by omega, ?_⟩, hbel⟩
        have := HA.out
        rwa [HE.out] at this
set_option maxHeartbeats 1000000 in
theorem eqBallotS_same (A : Option Addr) (n c : Nat) (qs : List Bal) (B : Option Addr) (d : Nat) (w : World) (h : Bals w A n c qs) (k : Bals w B n d qs) :
    Calls Try.prog 48 #[.slice A n c, .slice B n d] w fun e w' => e = .returned (.bool true) ∧ Below w.heap.size w w' := by
  have hm := h.short
  have qn : ((n : Int) != (n : Int)) = false := by simp
  go_enter Try.func48, Try.ntmps48
  go_wp2_with fail
  go_loopw [5] (fun i wr => ∃ (j : Nat), j ≤ n ∧ i = .int .i64 j ∧ Below w.heap.size w wr) (fun i _ => n - (intOf i).toNat)
  case atStart => exact ⟨0, Nat.zero_le _, rfl, Below.refl _ _⟩
  case round =>
    obtain ⟨j, hj, rfl, hbel⟩ := hrel
    by_cases hlt : j < n
    · obtain ⟨b, off, p, rfl, hb, ⟨A1, n1, c1, B1, m1, d1, q0, q1, q2, i1, i2⟩, hp⟩ := (h.below hbel).at hlt
      obtain ⟨b', off', p', rfl, hb', ⟨A2, n2, c2, B2, m2, d2, r0, r1, r2, j1, j2⟩, hp'⟩ := (k.below hbel).at hlt
      obtain rfl : p = p' := by have := hp'.out; rw [hp.out] at this; simpa using this
      obtain rfl : n1 = n2 := by rw [← i1.1, ← j1.1]
      obtain rfl : m1 = m2 := by rw [← i2.1, ← j2.1]
      obtain ⟨key, hkey⟩ : ∃ x, p.key = x := ⟨_, rfl⟩
      rw [hkey] at q2 r2
      have EQ := Lib.hid (fun W (hb : Below wr.heap.size wr W) => eqBallot_same A1 n1 c1 p.ss B1 m1 d1 p.ps key A2 c2 B2 d2 W (i1.below hb) (i2.below hb) (j1.below hb) (j2.below hb))
      clear i1 i2 j1 j2 hkey
      have SS := Lib.hid (fun (W : World) (bb : Below wr.heap.size wr W) => show W.cell? ⟨b, off + j * 3, none⟩ = some (.slice A1 n1 c1) ∧ W.cell? ⟨b, off + j * 3 + 1, none⟩ = some (.slice B1 m1 d1) ∧ W.cell? ⟨b, off + j * 3 + 2, none⟩ = some (.int .i64 key) ∧ W.cell? ⟨b', off' + j * 3, none⟩ = some (.slice A2 n1 c2) ∧ W.cell? ⟨b', off' + j * 3 + 1, none⟩ = some (.slice B2 m1 d2) ∧ W.cell? ⟨b', off' + j * 3 + 2, none⟩ = some (.int .i64 key) from
        ⟨(bb.cell (p := ⟨b, off + j * 3, none⟩) hb).trans q0, (bb.cell (p := ⟨b, off + j * 3 + 1, none⟩) hb).trans q1, (bb.cell (p := ⟨b, off + j * 3 + 2, none⟩) hb).trans q2, (bb.cell (p := ⟨b', off' + j * 3, none⟩) hb').trans r0, (bb.cell (p := ⟨b', off' + j * 3 + 1, none⟩) hb').trans r1, (bb.cell (p := ⟨b', off' + j * 3 + 2, none⟩) hb').trans r2⟩)
      have s0 := SS.out _ (Below.refl _ _)
      have t0 : Below wr.heap.size wr wr.drew := (Below.refl _ _).drew
      clear q0 q1 q2 r0 r1 r2
      go_wp2_with fail
      go_region_held3 (fun w' => w'.cell? ⟨b, off + j * 3, none⟩ = some (.slice A1 n1 c1) ∧ w'.cell? ⟨b, off + j * 3 + 1, none⟩ = some (.slice B1 m1 d1) ∧ w'.cell? ⟨b, off + j * 3 + 2, none⟩ = some (.int .i64 key) ∧ w'.cell? ⟨b', off' + j * 3, none⟩ = some (.slice A2 n1 c2) ∧ w'.cell? ⟨b', off' + j * 3 + 1, none⟩ = some (.slice B2 m1 d2) ∧ w'.cell? ⟨b', off' + j * 3 + 2, none⟩ = some (.int .i64 key)) (first | exact s0 | exact SS.out _ t0 | exact SS.out _ tw | exact SS.out _ (Below.refl _ _)) (first | (go_at_call 37; refine (EQ.out _ (by first | exact t0 | exact Below.refl _ _)).mono ?_; rintro e w5 ⟨rfl, t5⟩; have tw : Below wr.heap.size wr w5 := ⟨t5.os, t5.tape, t5.output, t5.size, t5.block⟩))
      have bel5 := bel_trans hbel tw
      go_wp2_with fail
      go_roundw
      case rel => exact ⟨j + 1, by omega, by go_num, bel5⟩
      case measure => simp [intOf]; omega
    · go_wp2_with fail
      go_ret
      exact ⟨rfl, hbel⟩
/-- A ballot in a block that the call made. -/
def BalNew (w : World) (g o : Nat) (q : Bal) : Prop :=
  ∃ A n c B m d, w.cell? ⟨g, o, none⟩ = some (.slice A n c) ∧ w.cell? ⟨g, o + 1, none⟩ = some (.slice B m d) ∧ w.cell? ⟨g, o + 2, none⟩ = some (.int .i64 q.key) ∧ NewI w (g + 1) A n c q.ss ∧ BpsN w (g + 1) B m d q.ps
theorem BalNew.at {w : World} {g o : Nat} {q : Bal} (h : BalNew w g o q) : BalAt w g o q := by
  obtain ⟨A, n, c, B, m, d, h1, h2, h3, i1, i2⟩ := h
  exact ⟨A, n, c, B, m, d, h1, h2, h3, i1.1, i2.bps⟩
theorem BalNew.below {w w' : World} {g o : Nat} {q : Bal} (h : BalNew w g o q) (hl : g < w.heap.size) (hb : Below w.heap.size w w') : BalNew w' g o q := by
  obtain ⟨A, n, c, B, m, d, h1, h2, h3, i1, i2⟩ := h
  exact ⟨A, n, c, B, m, d, (hb.cell (p := ⟨g, o, none⟩) hl).trans h1, (hb.cell (p := ⟨g, o + 1, none⟩) hl).trans h2, (hb.cell (p := ⟨g, o + 2, none⟩) hl).trans h3, i1.below hb, i2.below hb⟩
theorem BalNew.far {w : World} {g o : Nat} {q : Bal} (h : BalNew w g o q) {o' : Nat} (hne : o + 2 < o') (u : Value) : BalNew (w.setCell ⟨g, o', none⟩ u) g o q := by
  obtain ⟨A, n, c, B, m, d, h1, h2, h3, i1, i2⟩ := h
  have key : ∀ q, q ≠ o' → (w.setCell ⟨g, o', none⟩ u).cell? ⟨g, q, none⟩ = w.cell? ⟨g, q, none⟩ := fun q hq => World.cell?_setCell_other _ _ _ _ (fun e => hq (by injection e with _ e2; exact e2.symm))
  exact ⟨A, n, c, B, m, d, (key _ (by omega)).trans h1, (key _ (by omega)).trans h2, (key _ (by omega)).trans h3, i1.far (by omega) _ _, i2.farb (by omega) _ _⟩
theorem BalNew.put {w : World} {g o : Nat} {q : Bal} {A : Option Addr} {n c : Nat} {B : Option Addr} {m d : Nat} {u0 u1 u2 : Value} (h0 : w.cell? ⟨g, o, none⟩ = some u0) (h1 : w.cell? ⟨g, o + 1, none⟩ = some u1) (h2 : w.cell? ⟨g, o + 2, none⟩ = some u2)
    (i1 : NewI w (g + 1) A n c q.ss) (i2 : BpsN w (g + 1) B m d q.ps) :
    BalNew (((w.setCell ⟨g, o, none⟩ (.slice A n c)).setCell ⟨g, o + 1, none⟩ (.slice B m d)).setCell ⟨g, o + 2, none⟩ (.int .i64 q.key)) g o q := by
  have key : ∀ (W : World) (q o' : Nat) (u : Value), q ≠ o' → (W.setCell ⟨g, o', none⟩ u).cell? ⟨g, q, none⟩ = W.cell? ⟨g, q, none⟩ := fun W q o' u hq => World.cell?_setCell_other _ _ _ _ (fun e => hq (by injection e with _ e2; exact e2.symm))
  refine ⟨A, n, c, B, m, d, ?_, ?_, ?_, ((i1.far (by omega) _ _).far (by omega) _ _).far (by omega) _ _, ((i2.farb (by omega) _ _).farb (by omega) _ _).farb (by omega) _ _⟩
  · rw [key _ _ _ _ (by omega), key _ _ _ _ (by omega)]
    exact World.cell?_setCell_same w _ _ h0
  · rw [key _ _ _ _ (by omega)]
    exact World.cell?_setCell_same _ _ _ ((key _ _ _ _ (by omega)).trans h1)
  · exact World.cell?_setCell_same _ _ _ ((key _ _ _ _ (by omega)).trans ((key _ _ _ _ (by omega)).trans h2))
theorem info_bal : (Try.prog.info? 48).map (fun i => (i.zero, i.size, i.bytes)) = some (some (.agg #[.slice none 0 0, .slice none 0 0, .int .i64 0]), 3, 56) := by kernel_rfl
set_option maxHeartbeats 1000000 in
theorem toBallotS_any (A : Option Addr) (n c : Nat) (qs : List Bal) (w : World) (h : Bals w A n c qs) (hn : n ≤ 1048576) (hp : ∀ q ∈ qs, SmallQ q) :
    Calls Try.prog 47 #[.slice A n c] w fun e w' => ∃ A' c', e = .returned (.slice A' n c') ∧ Bals w' A' n c' qs ∧ Below w.heap.size w w' := by
  have hl := Lib.hid h.1
  have HP := Lib.hid hp
  have hms := h.short
  obtain ⟨i0, hi, hzz⟩ := Option.map_eq_some_iff.1 info_bal
  simp only [Prod.mk.injEq] at hzz
  obtain ⟨hz0, hz1, hz2⟩ := hzz
  have hmk : ∀ W, (Instr.makeSlice 45 (.int .i64 (n : Int)) (.int .i64 (n : Int))).run Try.prog W = .ok (.slice (some ⟨W.heap.size, 0, none⟩) n n) (W.alloc (.cells (madeCells #[.slice none 0 0, .slice none 0 0, .int .i64 0] (n * 3)) 48)) := fun W => by
    have := run_make (P := Try.prog) W 45 48 i0 _ Try.underlying45 hi hz0 .i64 .i64 n n (by omega) (Int.le_refl _) (by rw [hz2]; omega) (by omega)
    rw [hz1] at this
    exact this
  clear hp hi hz0 hz1 hz2
  go_enter Try.func47, Try.ntmps47
  go_wp2_with fail
  have CW := Cs.new w (madeCells #[.slice none 0 0, .slice none 0 0, .int .i64 0] (n * 3)).toList 48
  rw [Array.toArray_toList] at CW
  have CL : (madeCells #[.slice none 0 0, .slice none 0 0, .int .i64 0] (n * 3)).toList.length = n * 3 := by simp [madeCells]
  go_loopw [4] (fun i wr => ∃ (k : Nat) (L : List Value), k ≤ n ∧ i = .int .i64 k ∧ L.length = n * 3 ∧ Cs wr w.heap.size L ∧ (∀ (j : Nat) (p : Bal), j < k → qs[j]? = some p → BalNew wr w.heap.size (j * 3) p) ∧ Below w.heap.size w wr) (fun i _ => n - (intOf i).toNat)
  case atStart => exact ⟨0, _, Nat.zero_le _, rfl, CL, CW, fun j p hj => by omega, bel_alloc _ _⟩
  case round =>
    obtain ⟨k, L, hk, rfl, hL, hC, hB, hbel⟩ := hrel
    have HC := Lib.hid hC
    have HB := Lib.hid hB
    have HL := Lib.hid hL
    clear hC hB hL CW CL
    by_cases hlt : k < n
    · obtain ⟨b, off, p, rfl, hb, ⟨A1, n1, c1, B1, m1, d1, q0, q1, q2, i1, i2⟩, hp⟩ := (h.below hbel).at hlt
      obtain ⟨l1, l2, l3⟩ := HP.out p (mem_of_at hp.out)
      have e1 := i1.1
      have e2 := i2.1
      obtain ⟨key, hkey⟩ : ∃ x, p.key = x := ⟨_, rfl⟩
      rw [hkey] at q2
      have HK := Lib.hid hkey
      have TB := Lib.hid (toBallot_new A1 n1 c1 p.ss B1 m1 d1 p.ps key wr i1 i2 (by omega) (by omega) l3)
      have hgr : w.heap.size < wr.heap.size := HC.out.1
      clear i1 i2 e1 e2 hkey l3
      go_wp2_with fail
      refine TB.out.mono ?_
      rintro e w1 ⟨A2, c2, B2, d2, rfl, o1, o2, b1⟩
      have HC1 := Lib.hid (HC.out.below b1)
      have bel1 := bel_trans hbel b1
      have hll := HL.out
      obtain ⟨u0, hu0⟩ : ∃ u, L[k * 3]? = some u := ⟨_, List.getElem?_eq_getElem (by omega)⟩
      obtain ⟨u1, hu1⟩ : ∃ u, L[k * 3 + 1]? = some u := ⟨_, List.getElem?_eq_getElem (by omega)⟩
      obtain ⟨u2, hu2⟩ : ∃ u, L[k * 3 + 2]? = some u := ⟨_, List.getElem?_eq_getElem (by omega)⟩
      have v0 := HC1.out.cell _ hu0
      have v1 := HC1.out.cell _ hu1
      have v2 := HC1.out.cell _ hu2
      have z0 := HC1.out.free _ hu0
      have z1 := HC1.out.free _ hu1
      have z2 := HC1.out.free _ hu2
      have pp := BalNew.put (q := p) v0 v1 v2 (o1.mono (b2 := w.heap.size + 1) hgr) (o2.mono (b2 := w.heap.size + 1) hgr)
      rw [HK.out] at pp
      have PUT := Lib.hid pp
      have HB1 : Hid (∀ (j : Nat) (p : Bal), j < k → qs[j]? = some p → BalNew w1 w.heap.size (j * 3) p) := fun j p hj hpp => (HB.out j p hj hpp).below hgr b1
      clear hu0 hu1 hu2 hll o1 o2 pp
      go_wp2_with fail
      go_roundw
      case rel =>
        refine ⟨k + 1, _, by omega, by go_num, ?_, ((HC1.out.set (k * 3) _ (by rw [HL.out]; omega)).set (k * 3 + 1) _ (by rw [List.length_set, HL.out]; omega)).set (k * 3 + 2) _ (by rw [List.length_set, List.length_set, HL.out]; omega), ?_, ((bel1.setCell (Nat.le_refl _) _).setCell (Nat.le_refl _) _).setCell (Nat.le_refl _) _⟩
        · simp [HL.out]
        · intro j x hj hx
          rcases Nat.lt_or_ge j k with h1 | h1
          · exact (((HB1.out j x h1 hx).far (by omega) _).far (by omega) _).far (by omega) _
          · obtain rfl : j = k := by omega
            rw [hp.out] at hx
            injection hx with hx
            subst hx
            exact PUT.out
      case measure => simp [intOf]; omega
    · obtain rfl : n = k := by omega
      have hgr : w.heap.size < wr.heap.size := HC.out.1
      go_wp2_with fail
      go_ret
      exact ⟨_, _, rfl, ⟨hl.out, Nat.le_refl _, by unfold maxLen; omega, fun h0 => ⟨w.heap.size, 0, rfl, hgr, fun j p hp => by
        rw [Nat.zero_add]
        exact (HB.out j p (by have := (List.getElem?_eq_some_iff.1 hp).1; have := hl.out; omega) hp).at⟩⟩, hbel⟩
end Go.Proofs.Ytnjnngnagdhaiaa
