/- A ballot's lists, apart from one another: marked, and the marks held. -/
import Derived.Test.YtnjnngnagdhaiaaBalMark
import Derived.Test.YtnjnngnagdhaiaaRwsLaw
namespace Go.Proofs.Ytnjnngnagdhaiaa
set_option linter.unusedVariables false
set_option maxRecDepth 100000
open Go.RowKit
/-- Slices of the call's own, each leading to a block of its own. -/
structure RW (lo hi : Nat) (w : World) (vs : List Value) (zss : List (List Int)) : Prop where
  len : vs.length = zss.length
  row : ∀ (j : Nat) (zs : List Int), zss[j]? = some zs → ∃ A c, vs[j]? = some (Value.slice A zs.length c) ∧ OwnI w lo A zs.length c zs
  apart : vs.Pairwise Apart
  top : ∀ v ∈ vs, ∀ g, v.ownBlock = some g → g < hi
theorem RW.below {lo hi : Nat} {w w' : World} {vs : List Value} {zss : List (List Int)} (h : RW lo hi w vs zss) (b : Below w.heap.size w w') : RW lo hi w' vs zss :=
  ⟨h.len, fun j zs e => by obtain ⟨A, c, e1, o⟩ := h.row j zs e; exact ⟨A, c, e1, o.below b⟩, h.apart, h.top⟩
theorem RW.at {lo hi : Nat} {w : World} {vs : List Value} {zss : List (List Int)} (h : RW lo hi w vs zss) {j : Nat} (hj : j < zss.length) :
    ∃ A c zs, Hid (zss[j]? = some zs) ∧ vs[j]? = some (Value.slice A zs.length c) ∧ OwnI w lo A zs.length c zs := by
  obtain ⟨A, c, e, o⟩ := h.row j _ (List.getElem?_eq_getElem hj)
  exact ⟨A, c, _, List.getElem?_eq_getElem hj, e, o⟩
theorem RW.turn {lo hi : Nat} {w w' : World} {vs : List Value} {zss : List (List Int)} (h : RW lo hi w vs zss) {j : Nat} {B : Option Addr} {m d : Nat} {zs' : List Int}
    (hv : vs[j]? = some (.slice B m d)) (hrow : OwnI w' lo B m d zs') (hg : w.grownBy w' (Value.slice B m d).ownBlock) : RW lo hi w' vs (zss.set j zs') := by
  have hvl := h.len
  have hj : j < vs.length := (List.getElem?_eq_some_iff.1 hv).1
  have hm : zs'.length = m := hrow.len
  refine ⟨by simp [hvl], fun i us hu => ?_, h.apart, h.top⟩
  by_cases e : j = i
  · subst e
    rw [List.getElem?_set_self (by omega)] at hu
    injection hu with hu
    subst hu
    exact ⟨B, d, by rw [hv, hm], by rw [hm]; exact hrow⟩
  · rw [List.getElem?_set_ne e] at hu
    obtain ⟨A2, c2, hv2, hi2⟩ := h.row i us hu
    refine ⟨A2, c2, hv2, hi2.kept hg ?_⟩
    have hp := List.pairwise_iff_getElem.1 h.apart
    obtain ⟨l1, e1⟩ := List.getElem?_eq_some_iff.1 hv
    obtain ⟨l2, e2⟩ := List.getElem?_eq_some_iff.1 hv2
    rcases Nat.lt_or_gt_of_ne e with hlt | hlt
    · have := hp j i l1 l2 hlt
      rw [e1, e2] at this
      exact this.symm
    · have := hp i j l2 l1 hlt
      rw [e1, e2] at this
      exact this
/-- The first r rows are marked. -/
def mkd (k : Int) (zss : List (List Int)) (r : Nat) : List (List Int) := (iotas k zss).take r ++ zss.drop r
theorem mkd_zero (k : Int) (zss : List (List Int)) : mkd k zss 0 = zss := by simp [mkd]
theorem mkd_end (k : Int) (zss : List (List Int)) {r : Nat} (h : zss.length ≤ r) : mkd k zss r = iotas k zss := by
  unfold mkd; rw [List.take_of_length_le (by rw [iotas_length]; exact h), List.drop_of_length_le h, List.append_nil]
theorem mkd_len (k : Int) (zss : List (List Int)) (r : Nat) : (mkd k zss r).length = zss.length := by unfold mkd; simp [iotas_length]; omega
theorem mkd_at {k : Int} {zss : List (List Int)} {r : Nat} (h : r < zss.length) : (mkd k zss r)[r]? = zss[r]? := by
  unfold mkd
  rw [List.getElem?_append_right (by rw [List.length_take, iotas_length]; omega), List.length_take, iotas_length, Nat.min_eq_left (by omega), Nat.sub_self]
  simp
/-- One row is marked. -/
theorem RW.step {lo hi : Nat} {w w' : World} {vs : List Value} {zss : List (List Int)} {k : Int} {r : Nat} (h : RW lo hi w vs (mkd k zss r)) {B : Option Addr} {d : Nat} {zs : List Int} (hz : zss[r]? = some zs)
    (hv : vs[r]? = some (.slice B zs.length d)) (hrow : OwnI w' lo B zs.length d (iota (k + totL (zss.take r)) zs.length)) (hg : w.grownBy w' (Value.slice B zs.length d).ownBlock) : RW lo hi w' vs (mkd k zss (r + 1)) := by
  have := h.turn hv hrow hg
  unfold mkd at this ⊢
  rwa [iotas_take zss k hz] at this
theorem totL_take {zss : List (List Int)} {r : Nat} {zs : List Int} (h : zss[r]? = some zs) : totL (zss.take (r + 1)) = totL (zss.take r) + zs.length := by rw [take_snoc' h, totL_snoc]
theorem totL_take_le (zss : List (List Int)) (r : Nat) : totL (zss.take r) ≤ totL zss := by
  have : totL zss = totL (zss.take r) + totL (zss.drop r) := by
    unfold totL
    rw [← List.sum_append, ← List.map_append, List.take_append_drop]
  omega
set_option maxHeartbeats 1000000 in
theorem markI2_any (lo hi : Nat) (A : Option Addr) (n c : Nat) (zs : List Int) (k : Int) (w : World) (h : OwnI w lo A n c zs) (hh : ∀ g, (Value.slice A n c).ownBlock = some g → g < hi) (h0 : 0 ≤ k) (h1 : k ≤ 1099511627776) (h2 : n ≤ 1048576) :
    Calls Try.prog 24 #[.slice A n c, .int .i64 k] w fun e w' => e = .returned (.int .i64 (k + n)) ∧ OwnI w' lo A n c (iota k n) ∧ w.grownBy w' (Value.slice A n c).ownBlock ∧ MK lo hi w w' := by
  have hl := Lib.hid h.len
  have HH := Lib.hid hh
  clear hh
  go_enter Try.func24, Try.ntmps24
  go_wp2_with fail
  go_loopw [1, 5] (fun kk i wr => ∃ j : Nat, j ≤ n ∧ i = .int .i64 j ∧ kk = .int .i64 (k + j) ∧ OwnI wr lo A n c (iota k j ++ zs.drop j) ∧ w.grownBy wr (Value.slice A n c).ownBlock ∧ MK lo hi w wr) (fun _ i _ => n - (intOf i).toNat)
  case atStart => exact ⟨0, Nat.zero_le _, rfl, by simp, by simpa [iota] using h, grown_refl _ _, MK.refl _ _ _⟩
  case round =>
    obtain ⟨j, hj, rfl, rfl, hown, hgr, hmk⟩ := hrel
    have HM := Lib.hid hmk
    clear hmk
    by_cases hlt : j < n
    · obtain ⟨g, rfl, hg1, hg2⟩ := hown.form (by omega)
      have e1 : j < (iota k j ++ zs.drop j).length := by have := hl.out; simp [iota_length]; omega
      obtain ⟨u, hu⟩ : ∃ u, wr.cell? ⟨g, j, none⟩ = some (.int .i64 u) := ⟨_, hown.cell (List.getElem?_eq_getElem e1)⟩
      have hfr := hown.free j
      have hs := Lib.hid (hown.set j (k + j) (by omega) (by omega))
      have MS := Lib.hid (HM.out.trans (MK.set hu hg1 (HH.out g rfl) (k + j)))
      have Hown := Lib.hid hown
      clear hown e1
      go_wp2_with fail
      go_roundw
      case rel =>
        refine ⟨j + 1, by omega, by go_num, by go_num, ?_, grown_trans hgr hs.out.2, MS.out⟩
        have := hs.out.1
        rwa [mark_set (by rw [hl.out]; omega)] at this
      case measure => simp [intOf]; omega
    · have Hown := Lib.hid hown
      clear hown
      obtain rfl : j = n := by omega
      go_wp2_with fail
      go_ret
      refine ⟨rfl, ?_, hgr, HM.out⟩
      have := Hown.out
      rwa [List.drop_of_length_le (by rw [hl.out]; omega), List.append_nil] at this
/-- The header of a slice of proofs: its places, in a row, are the slices behind the first. -/
def HB (w : World) (B : Option Addr) (m : Nat) (vs : List Value) : Prop := 0 < m → ∃ g, B = some ⟨g, 0, none⟩ ∧ ∀ j A n c, vs[1 + j]? = some (.slice A n c) → w.cell? ⟨g, j, none⟩ = some (.slice A n c)
theorem HB.mk {lo hi : Nat} {w w' : World} {B : Option Addr} {m : Nat} {vs : List Value} (h : HB w B m vs) (k : MK lo hi w w') : HB w' B m vs := fun hm => by
  obtain ⟨g, e, hc⟩ := h hm
  exact ⟨g, e, fun j A n c x => k.sl _ _ _ _ _ (hc j A n c x)⟩
/-- A row marked, a row held. -/
theorem markRow_any {lo hi : Nat} {w : World} {vs : List Value} {zss : List (List Int)} {k : Int} {r : Nat} (h : RW lo hi w vs (mkd k zss r)) (hr : r < zss.length) (hs : ∀ zs ∈ zss, zs.length ≤ 1000) (h0 : 0 ≤ k) (h1 : k ≤ 1000) (ht : totL zss ≤ 1000000000) :
    ∃ A n c, vs[r]? = some (.slice A n c) ∧ Calls Try.prog 24 #[.slice A n c, .int .i64 (k + totL (zss.take r))] w fun e w' => e = .returned (.int .i64 (k + totL (zss.take (r + 1)))) ∧ RW lo hi w' vs (mkd k zss (r + 1)) ∧ MK lo hi w w' := by
  obtain ⟨A, c, zs, hz, hv, ho⟩ := h.at (j := r) (by rw [mkd_len]; exact hr)
  have hz := hz.out
  rw [mkd_at hr] at hz
  have l1 := hs _ (mem_of_at hz)
  have tr := Nat.le_trans (totL_take_le zss r) ht
  refine ⟨A, zs.length, c, hv, (markI2_any lo hi A zs.length c zs _ w ho (h.top _ (List.mem_of_getElem? hv)) (by omega) (by omega) (by omega)).mono ?_⟩
  rintro e w' ⟨rfl, o, g, m⟩
  exact ⟨by rw [totL_take hz]; congr 2; omega, h.step hz hv o g, m⟩
theorem heldRow_any {lo hi : Nat} {w : World} {vs : List Value} {zss : List (List Int)} {k : Int} {r : Nat} (h : RW lo hi w vs (iotas k zss)) (hr : r < zss.length) (hs : ∀ zs ∈ zss, zs.length ≤ 1000) (h0 : 0 ≤ k) (h1 : k ≤ 1000) (ht : totL zss ≤ 1000000000) :
    ∃ A n c, vs[r]? = some (.slice A n c) ∧ Calls Try.prog 51 #[.slice A n c, .int .i64 (k + totL (zss.take r))] w fun e w' => e = .returned (.int .i64 (k + totL (zss.take (r + 1)))) ∧ Below w.heap.size w w' := by
  have hz : zss[r]? = some zss[r] := List.getElem?_eq_getElem hr
  obtain ⟨A, c, hv, ho⟩ := h.row r _ (iotas_at hz)
  have l1 := hs _ (mem_of_at hz)
  have tr := Nat.le_trans (totL_take_le zss r) ht
  rw [iota_length] at hv ho
  refine ⟨A, _, c, hv, (heldInt64S_any A _ c (k + totL (zss.take r)) w ho.ints (by omega) (by omega) (by omega)).mono ?_⟩
  rintro e w' ⟨rfl, b⟩
  exact ⟨by rw [totL_take hz]; congr 2; omega, b⟩
set_option maxHeartbeats 1000000 in
theorem markBitProofS_h (lo hi : Nat) (B : Option Addr) (m d : Nat) (k q : Int) (w : World) (vs : List Value) (zss : List (List Int)) (hz : zss.length = 1 + m * 3) (h : RW lo hi w vs (mkd k zss 1)) (hb : HB w B m vs)
    (hs : ∀ zs ∈ zss, zs.length ≤ 1000) (hm : m ≤ 1000) (h0 : 0 ≤ k) (h1 : k ≤ 1000) (ht : totL zss ≤ 1000000000) (hq : q = k + totL (zss.take 1)) :
    Calls Try.prog 84 #[.slice B m d, .int .i64 q] w fun e w' => e = .returned (.int .i64 (k + totL zss)) ∧ RW lo hi w' vs (iotas k zss) ∧ MK lo hi w w' := by
  have SM := Lib.hid hs
  have TK := Lib.hid (fun r => Nat.le_trans (totL_take_le zss r) ht)
  have HT := Lib.hid h.top
  clear hs
  go_enter Try.func84, Try.ntmps84
  go_wp2_with fail
  go_loopw [1, 5] (fun kk i wr => ∃ (j : Nat) (r : Int), j ≤ m ∧ i = .int .i64 j ∧ kk = .int .i64 r ∧ r = k + totL (zss.take (1 + j * 3)) ∧ RW lo hi wr vs (mkd k zss (1 + j * 3)) ∧ MK lo hi w wr) (fun _ i _ => m - (intOf i).toNat)
  case atStart => exact ⟨0, q, Nat.zero_le _, rfl, rfl, hq, h, MK.refl _ _ _⟩
  case round =>
    obtain ⟨j, r, hj, rfl, rfl, hr, hrw, hmk⟩ := hrel
    have HR := Lib.hid hrw
    have HM := Lib.hid hmk
    have TR := TK.out (1 + j * 3)
    have Hr := Lib.hid hr
    clear hrw hmk
    by_cases hlt : j < m
    · obtain ⟨g, rfl, hc⟩ := (hb.mk HM.out) (by omega)
      have HC := Lib.hid hc
      have MR0 := Lib.hid (fun (W : World) (R : Nat) (hW : RW lo hi W vs (mkd k zss R)) (hR : R < zss.length) => markRow_any hW hR SM.out h0 h1 ht)
      obtain ⟨A0, n0, c0, v0, X0⟩ := MR0.out _ _ HR.out (by omega)
      have q0 := hc _ _ _ _ v0
      have t0 := TK.out (1 + j * 3)
      rw [← Hr.out] at X0
      have XX0 := Lib.hid X0
      clear hc v0 X0 hr TR t0
      go_wp2_with fail
      refine XX0.out.mono ?_
      rintro e w1 ⟨rfl, R1, m1⟩
      obtain ⟨A1, n1, c1, v1, X1⟩ := MR0.out _ _ R1 (by omega)
      have q1 := m1.sl _ _ _ _ _ (HC.out _ _ _ _ (show vs[1 + (j * 3 + 1)]? = _ from v1))
      have hm1 := Lib.hid (HM.out.trans m1)
      have M1 := Lib.hid m1
      have HR1 := Lib.hid R1
      obtain ⟨r1, hr1⟩ : ∃ r1 : Int, k + totL (zss.take (1 + j * 3 + 1)) = r1 := ⟨_, rfl⟩
      rw [hr1] at X1 ⊢
      have XX1 := Lib.hid X1
      clear q0 v1 X1 R1 m1 hr1
      go_wp2_with fail
      refine XX1.out.mono ?_
      rintro e w2 ⟨rfl, R2, m2⟩
      obtain ⟨A2, n2, c2, v2, X2⟩ := MR0.out _ _ R2 (by omega)
      have q2 := m2.sl _ _ _ _ _ (M1.out.sl _ _ _ _ _ (HC.out _ _ _ _ (show vs[1 + (j * 3 + 2)]? = _ from v2)))
      have hm2 := Lib.hid (hm1.out.trans m2)
      obtain ⟨r2, hr2⟩ : ∃ r2 : Int, k + totL (zss.take (1 + j * 3 + 1 + 1)) = r2 := ⟨_, rfl⟩
      rw [hr2] at X2 ⊢
      have XX2 := Lib.hid X2
      clear q1 v2 X2 R2 m2 hr2
      go_wp2_with fail
      refine XX2.out.mono ?_
      rintro e w3 ⟨rfl, R3, m3⟩
      have hm3 := hm2.out.trans m3
      have HR3 := Lib.hid R3
      clear m3 R3
      go_wp2_with fail
      go_roundw
      case rel => exact ⟨j + 1, _, by omega, by go_num, rfl, by rw [show 1 + (j + 1) * 3 = 1 + j * 3 + 1 + 1 + 1 by omega], by rw [show 1 + (j + 1) * 3 = 1 + j * 3 + 1 + 1 + 1 by omega]; exact HR3.out, hm3⟩
      case measure => simp [intOf]; omega
    · obtain rfl : m = j := by omega
      have E1 : zss.take (1 + m * 3) = zss := List.take_of_length_le (by omega)
      go_wp2_with fail
      go_ret
      refine ⟨by rw [Hr.out, E1]; rfl, ?_, HM.out⟩
      have := HR.out
      rwa [mkd_end k zss (by omega)] at this
set_option maxHeartbeats 1000000 in
theorem heldBitProofS_h (lo hi : Nat) (B : Option Addr) (m d : Nat) (k q : Int) (w : World) (vs : List Value) (zss : List (List Int)) (hz : zss.length = 1 + m * 3) (h : RW lo hi w vs (iotas k zss)) (hb : HB w B m vs)
    (hs : ∀ zs ∈ zss, zs.length ≤ 1000) (hm : m ≤ 1000) (h0 : 0 ≤ k) (h1 : k ≤ 1000) (ht : totL zss ≤ 1000000000) (hq : q = k + totL (zss.take 1)) :
    Calls Try.prog 85 #[.slice B m d, .int .i64 q] w fun e w' => e = .returned (.int .i64 (k + totL zss)) ∧ Below w.heap.size w w' := by
  have SM := Lib.hid hs
  have HRW := Lib.hid h
  have HHB := Lib.hid hb
  clear hs h hb
  go_enter Try.func85, Try.ntmps85
  go_wp2_with fail
  go_loopw [1, 5] (fun kk i wr => ∃ (j : Nat) (r : Int), j ≤ m ∧ i = .int .i64 j ∧ kk = .int .i64 r ∧ r = k + totL (zss.take (1 + j * 3)) ∧ Below w.heap.size w wr) (fun _ i _ => m - (intOf i).toNat)
  case atStart => exact ⟨0, q, Nat.zero_le _, rfl, rfl, hq, Below.refl _ _⟩
  case round =>
    obtain ⟨j, r, hj, rfl, rfl, hr, hbel⟩ := hrel
    have Hr := Lib.hid hr
    by_cases hlt : j < m
    · obtain ⟨g, rfl, hc⟩ := (HHB.out.mk (MK.of_below 0 0 hbel)) (by omega)
      have HC := Lib.hid hc
      have MR0 := Lib.hid (fun (W : World) (R : Nat) (hW : Below w.heap.size w W) (hR : R < zss.length) => heldRow_any (HRW.out.below hW) hR SM.out h0 h1 ht)
      obtain ⟨A0, n0, c0, v0, X0⟩ := MR0.out _ (1 + j * 3) hbel (by omega)
      have q0 := hc _ _ _ _ v0
      rw [← Hr.out] at X0
      obtain ⟨r0, hr0⟩ : ∃ r0 : Int, k + totL (zss.take (1 + j * 3 + 1)) = r0 := ⟨_, rfl⟩
      have p0 : 0 ≤ r0 := by omega
      rw [hr0] at X0
      have HR0 := Lib.hid hr0
      have XX0 := Lib.hid X0
      clear hc v0 hr0 hr X0
      go_wp2_with fail
      refine XX0.out.mono ?_
      rintro e w1 ⟨rfl, b1⟩
      have bel1 := bel_trans hbel b1
      obtain ⟨A1, n1, c1, v1, X1⟩ := MR0.out _ (1 + j * 3 + 1) bel1 (by omega)
      have q1 := (MK.of_below 0 0 b1).sl _ _ _ _ _ (HC.out _ _ _ _ (show vs[1 + (j * 3 + 1)]? = _ from v1))
      obtain ⟨r1, hr1⟩ : ∃ r1 : Int, k + totL (zss.take (1 + j * 3 + 1 + 1)) = r1 := ⟨_, rfl⟩
      have p1 : 0 ≤ r1 := by omega
      rw [HR0.out, hr1] at X1
      have HR1 := Lib.hid hr1
      have XX1 := Lib.hid X1
      clear q0 v1 X1 hr1
      go_wp2_with fail
      refine XX1.out.mono ?_
      rintro e w2 ⟨rfl, b2⟩
      have bel2 := bel_trans bel1 b2
      obtain ⟨A2, n2, c2, v2, X2⟩ := MR0.out _ (1 + j * 3 + 1 + 1) bel2 (by omega)
      have q2 := (MK.of_below 0 0 b2).sl _ _ _ _ _ ((MK.of_below 0 0 b1).sl _ _ _ _ _ (HC.out _ _ _ _ (show vs[1 + (j * 3 + 2)]? = _ from v2)))
      obtain ⟨r2, hr2⟩ : ∃ r2 : Int, k + totL (zss.take (1 + j * 3 + 1 + 1 + 1)) = r2 := ⟨_, rfl⟩
      have p2 : 0 ≤ r2 := by omega
      rw [HR1.out, hr2] at X2
      have HR2 := Lib.hid hr2
      have XX2 := Lib.hid X2
      clear q1 v2 X2 hr2
      go_wp2_with fail
      refine XX2.out.mono ?_
      rintro e w3 ⟨rfl, b3⟩
      have bel3 := bel_trans bel2 b3
      go_wp2_with fail
      go_roundw
      case rel => exact ⟨j + 1, r2, by omega, by go_num, rfl, by rw [show 1 + (j + 1) * 3 = 1 + j * 3 + 1 + 1 + 1 by omega]; exact HR2.out.symm, bel3⟩
      case measure => simp [intOf]; omega
    · obtain rfl : m = j := by omega
      have E1 : zss.take (1 + m * 3) = zss := List.take_of_length_le (by omega)
      go_wp2_with fail
      go_ret
      exact ⟨by rw [Hr.out, E1]; rfl, hbel⟩
end Go.Proofs.Ytnjnngnagdhaiaa
