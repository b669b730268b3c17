/- Ballots of the call's own, marked: what holds an integer holds an integer, all else stays. -/
import Derived.Test.YtnjnngnagdhaiaaBalO
import Derived.Test.YtnjnngnagdhaiaaRws
namespace Go.Proofs.Ytnjnngnagdhaiaa
set_option linter.unusedVariables false
set_option maxRecDepth 100000
open Go.RowKit
/-- Only integers are written, into integers' places, in a range of blocks. -/
structure MK (lo hi : Nat) (w w' : World) : Prop where
  only : Only lo hi w w'
  sl : ∀ g j A n c, w.cell? ⟨g, j, none⟩ = some (.slice A n c) → w'.cell? ⟨g, j, none⟩ = some (.slice A n c)
  num : ∀ g j z, w.cell? ⟨g, j, none⟩ = some (.int .i64 z) → (∃ z', w'.cell? ⟨g, j, none⟩ = some (.int .i64 z')) ∧ w'.frozen? ⟨g, j, none⟩ = w.frozen? ⟨g, j, none⟩
theorem MK.refl (lo hi : Nat) (w : World) : MK lo hi w w := ⟨Only.refl _ _ _, fun _ _ _ _ _ h => h, fun _ _ z h => ⟨⟨z, h⟩, rfl⟩⟩
theorem MK.trans {lo hi : Nat} {w w' w2 : World} (h : MK lo hi w w') (k : MK lo hi w' w2) : MK lo hi w w2 :=
  ⟨h.only.trans k.only, fun g j A n c e => k.sl g j A n c (h.sl g j A n c e), fun g j z e => by
    obtain ⟨⟨z', e'⟩, f'⟩ := h.num g j z e
    obtain ⟨r, f2⟩ := k.num g j z' e'
    exact ⟨r, f2.trans f'⟩⟩
theorem MK.of_below {w w' : World} (lo hi : Nat) (h : Below w.heap.size w w') : MK lo hi w w' :=
  ⟨Only.of_below h lo hi, fun g j A n c e => (h.cell (p := ⟨g, j, none⟩) (World.block_lt_of_cell? w _ e)).trans e, fun g j z e => ⟨⟨z, (h.cell (p := ⟨g, j, none⟩) (World.block_lt_of_cell? w _ e)).trans e⟩, h.frozen (p := ⟨g, j, none⟩) (World.block_lt_of_cell? w _ e)⟩⟩
theorem MK.set {lo hi : Nat} {w : World} {g j : Nat} {z : Int} (e : w.cell? ⟨g, j, none⟩ = some (.int .i64 z)) (h1 : lo ≤ g) (h2 : g < hi) (z' : Int) : MK lo hi w (w.setCell ⟨g, j, none⟩ (.int .i64 z')) := by
  refine ⟨⟨rfl, rfl, rfl, by simp [World.setCell], fun k _ hd => heap_setCell_other w ⟨g, j, none⟩ k _ (fun e => by simp at e; omega)⟩, fun g' j' A n c e' => ?_, fun g' j' z2 e' => ⟨?_, by rw [World.frozen?_setCell]⟩⟩
  · rw [World.cell?_setCell_other _ _ _ _ (fun q => by rw [← q, e] at e'; cases e')]
    exact e'
  · by_cases q : (⟨g, j, none⟩ : Addr) = ⟨g', j', none⟩
    · exact ⟨z', by rw [← q]; exact World.cell?_setCell_same w _ _ e⟩
    · exact ⟨z2, by rw [World.cell?_setCell_other _ _ _ _ q]; exact e'⟩
/-- A slice's places hold integers, and may be written. -/
def IW (lo hi : Nat) (w : World) (A : Option Addr) (n : Nat) : Prop :=
  n ≤ 1048576 ∧ (0 < n → ∃ g, A = some ⟨g, 0, none⟩ ∧ lo ≤ g ∧ g < hi ∧ ∀ j, j < n → ∃ z, w.cell? ⟨g, j, none⟩ = some (.int .i64 z) ∧ w.frozen? ⟨g, j, none⟩ = false)
theorem IW.mk {lo hi : Nat} {w w' : World} {A : Option Addr} {n : Nat} {l2 h2 : Nat} (h : IW lo hi w A n) (m : MK l2 h2 w w') : IW lo hi w' A n := by
  refine ⟨h.1, fun hn => ?_⟩
  obtain ⟨g, e, x1, x2, hc⟩ := h.2 hn
  refine ⟨g, e, x1, x2, fun j hj => ?_⟩
  obtain ⟨z, c, f⟩ := hc j hj
  obtain ⟨⟨z', c'⟩, f'⟩ := m.num g j z c
  exact ⟨z', c', f'.trans f⟩
theorem OwnI.iw {w : World} {base lo hi : Nat} {A : Option Addr} {n c : Nat} {zs : List Int} (h : OwnI w base A n c zs) (hn : n ≤ 1048576) (hb : lo ≤ base) (hh : ∀ g, (Value.slice A n c).ownBlock = some g → g < hi) : IW lo hi w A n := by
  refine ⟨hn, fun h0 => ?_⟩
  obtain ⟨g, rfl, h1, h2⟩ := h.form h0
  refine ⟨g, rfl, by omega, hh g rfl, fun j hj => ?_⟩
  have hl : j < zs.length := by have := h.len; omega
  exact ⟨zs[j], h.cell (List.getElem?_eq_getElem hl), h.free j⟩
def PW (lo hi : Nat) (w : World) (B : Option Addr) (m : Nat) : Prop :=
  m ≤ 1048576 ∧ (0 < m → ∃ g, B = some ⟨g, 0, none⟩ ∧ ∀ j, j < m → ∃ A n c A2 n2 c2 A3 n3 c3, w.cell? ⟨g, j * 3, none⟩ = some (.slice A n c) ∧ w.cell? ⟨g, j * 3 + 1, none⟩ = some (.slice A2 n2 c2) ∧ w.cell? ⟨g, j * 3 + 2, none⟩ = some (.slice A3 n3 c3) ∧ IW lo hi w A n ∧ IW lo hi w A2 n2 ∧ IW lo hi w A3 n3)
theorem PW.mk {lo hi : Nat} {w w' : World} {A : Option Addr} {n : Nat} {l2 h2 : Nat} (h : PW lo hi w A n) (m : MK l2 h2 w w') : PW lo hi w' A n := by
  refine ⟨h.1, fun hn => ?_⟩
  obtain ⟨g, e, hc⟩ := h.2 hn
  refine ⟨g, e, fun j hj => ?_⟩
  obtain ⟨A, n, c, A2, n2, c2, A3, n3, c3, q0, q1, q2, i1, i2, i3⟩ := hc j hj
  exact ⟨A, n, c, A2, n2, c2, A3, n3, c3, m.sl _ _ _ _ _ q0, m.sl _ _ _ _ _ q1, m.sl _ _ _ _ _ q2, i1.mk m, i2.mk m, i3.mk m⟩
def QW (lo hi : Nat) (w : World) (A : Option Addr) (n : Nat) : Prop :=
  n ≤ 1048576 ∧ (0 < n → ∃ g, A = some ⟨g, 0, none⟩ ∧ lo ≤ g ∧ g < hi ∧ ∀ j, j < n → ∃ A1 n1 c1 B m d z, w.cell? ⟨g, j * 3, none⟩ = some (.slice A1 n1 c1) ∧ w.cell? ⟨g, j * 3 + 1, none⟩ = some (.slice B m d) ∧ w.cell? ⟨g, j * 3 + 2, none⟩ = some (.int .i64 z) ∧ w.frozen? ⟨g, j * 3 + 2, none⟩ = false ∧ IW lo hi w A1 n1 ∧ PW lo hi w B m)
theorem QW.mk {lo hi : Nat} {w w' : World} {A : Option Addr} {n : Nat} {l2 h2 : Nat} (h : QW lo hi w A n) (m : MK l2 h2 w w') : QW lo hi w' A n := by
  refine ⟨h.1, fun hn => ?_⟩
  obtain ⟨g, e, x1, x2, hc⟩ := h.2 hn
  refine ⟨g, e, x1, x2, fun j hj => ?_⟩
  obtain ⟨A1, n1, c1, B, m1, d, z, q0, q1, q2, f, i1, i2⟩ := hc j hj
  obtain ⟨⟨z', c'⟩, f'⟩ := m.num _ _ z q2
  exact ⟨A1, n1, c1, B, m1, d, z', m.sl _ _ _ _ _ q0, m.sl _ _ _ _ _ q1, c', f'.trans f, i1.mk m, i2.mk m⟩
theorem QW.below {lo hi : Nat} {w w' : World} {A : Option Addr} {n : Nat} (h : QW lo hi w A n) (b : Below w.heap.size w w') : QW lo hi w' A n := h.mk (MK.of_below 0 0 b)
theorem BpOwn.iw {w : World} {g o lo : Nat} {p : Bp} (h : BpOwn w g o p) (hg : lo ≤ g) (l1 : p.ms.length ≤ 1048576) (l2 : p.cs.length ≤ 1048576) (l3 : p.as_.length ≤ 1048576) :
    ∃ A n c A2 n2 c2 A3 n3 c3, w.cell? ⟨g, o, none⟩ = some (.slice A n c) ∧ w.cell? ⟨g, o + 1, none⟩ = some (.slice A2 n2 c2) ∧ w.cell? ⟨g, o + 2, none⟩ = some (.slice A3 n3 c3) ∧ IW lo w.heap.size w A n ∧ IW lo w.heap.size w A2 n2 ∧ IW lo w.heap.size w A3 n3 := by
  obtain ⟨A, n, c, B, m, d, C, k, f, h1, h2, h3, i1, i2, i3⟩ := h
  exact ⟨A, n, c, B, m, d, C, k, f, h1, h2, h3, i1.iw (by rw [← i1.len]; exact l1) (by omega) (fun g hg => (i1.block g hg).2), i2.iw (by rw [← i2.len]; exact l2) (by omega) (fun g hg => (i2.block g hg).2), i3.iw (by rw [← i3.len]; exact l3) (by omega) (fun g hg => (i3.block g hg).2)⟩
theorem QW.mk' {w : World} {lo : Nat} {A : Option Addr} {n c : Nat} {qs : List Bal} (h0 : Bals w A n c qs) (h : BalsO w lo A n qs) (hn : n ≤ 1048576) (hq : ∀ q ∈ qs, SmallQ q) : QW lo w.heap.size w A n := by
  refine ⟨hn, fun h1 => ?_⟩
  obtain ⟨g, e, hg, hc⟩ := h h1
  obtain ⟨b, off, e', hb, _⟩ := h0.2.2.2 h1
  have hgb : g < w.heap.size := by rw [e] at e'; simp at e'; omega
  refine ⟨g, e, hg, hgb, fun j hj => ?_⟩
  have hl : j < qs.length := by have := h0.1; omega
  obtain ⟨⟨A1, n1, c1, B, m, d, q0, q1, q2, i1, i2⟩, f⟩ := hc j _ (List.getElem?_eq_getElem hl)
  obtain ⟨s1, s2, s3⟩ := hq _ (List.getElem_mem hl)
  refine ⟨A1, n1, c1, B, m, d, _, q0, q1, q2, f, i1.iw (by rw [← i1.len]; exact s1) (by omega) (fun g hg => (i1.block g hg).2), ⟨by rw [← i2.1]; exact s2, fun hm => ?_⟩⟩
  obtain ⟨gp, ep, hgp, hlp, hcp⟩ := i2.2.2.2 hm
  refine ⟨gp, ep, fun i hi => ?_⟩
  have hil : i < (qs[j]).ps.length := by rw [i2.1]; exact hi
  obtain ⟨t1, t2, t3⟩ := s3 _ (List.getElem_mem hil)
  exact (hcp i _ (List.getElem?_eq_getElem hil)).iw (by omega) t1 t2 t3
set_option maxHeartbeats 1000000 in
theorem markI_any (lo hi : Nat) (A : Option Addr) (n c : Nat) (k : Int) (w : World) (h : IW lo hi w A n) (h0 : 0 ≤ k) (h1 : k ≤ 4000000000000000000) :
    Calls Try.prog 24 #[.slice A n c, .int .i64 k] w fun e w' => e = .returned (.int .i64 (k + n)) ∧ MK lo hi w w' := by
  have hn := h.1
  go_enter Try.func24, Try.ntmps24
  go_wp2_with fail
  go_loopw [1, 5] (fun kk i wr => ∃ j : Nat, j ≤ n ∧ i = .int .i64 j ∧ kk = .int .i64 (k + j) ∧ MK lo hi w wr) (fun _ i _ => n - (intOf i).toNat)
  case atStart => exact ⟨0, Nat.zero_le _, rfl, by simp, MK.refl _ _ _⟩
  case round =>
    obtain ⟨j, hj, rfl, rfl, hmk⟩ := hrel
    by_cases hlt : j < n
    · obtain ⟨g, rfl, x1, x2, hc⟩ := (h.mk hmk).2 (by omega)
      obtain ⟨z, hu, hfr⟩ := hc j hlt
      have MS := Lib.hid (hmk.trans (MK.set hu x1 x2 (k + j)))
      clear hc
      go_wp2_with fail
      go_roundw
      case rel => exact ⟨j + 1, by omega, by go_num, by go_num, MS.out⟩
      case measure => simp [intOf]; omega
    · obtain rfl : j = n := by omega
      go_wp2_with fail
      go_ret
      exact ⟨rfl, hmk⟩
set_option maxHeartbeats 1000000 in
theorem markBitProofS_w (lo hi : Nat) (B : Option Addr) (m d : Nat) (k : Int) (w : World) (h : PW lo hi w B m) (h0 : 0 ≤ k) (h1 : k ≤ 3900000000000000000) :
    Calls Try.prog 84 #[.slice B m d, .int .i64 k] w fun e w' => ∃ r, e = .returned (.int .i64 r) ∧ k ≤ r ∧ r ≤ k + m * 3145728 ∧ MK lo hi w w' := by
  have hn := h.1
  go_enter Try.func84, Try.ntmps84
  go_wp2_with fail
  go_loopw [1, 5] (fun kk i wr => ∃ (j : Nat) (r : Int), j ≤ m ∧ i = .int .i64 j ∧ kk = .int .i64 r ∧ k ≤ r ∧ r ≤ k + j * 3145728 ∧ MK lo hi w wr) (fun _ i _ => m - (intOf i).toNat)
  case atStart => exact ⟨0, k, Nat.zero_le _, rfl, rfl, by omega, by omega, MK.refl _ _ _⟩
  case round =>
    obtain ⟨j, r, hj, rfl, rfl, r0, r1, hmk⟩ := hrel
    by_cases hlt : j < m
    · obtain ⟨g, rfl, hc⟩ := (h.mk hmk).2 (by omega)
      obtain ⟨A, n, c, A2, n2, c2, A3, n3, c3, q0, q1, q2, i1, i2, i3⟩ := hc j hlt
      have I2 := Lib.hid i2
      have I3 := Lib.hid i3
      have l1 := i1.1
      have l2 := i2.1
      have l3 := i3.1
      clear hc i2 i3
      go_wp2_with fail
      refine (markI_any lo hi A n c r _ i1 (by omega) (by omega)).mono ?_
      rintro e w1 ⟨rfl, m1⟩
      have v1 := m1.sl _ _ _ _ _ q1
      have v2 := m1.sl _ _ _ _ _ q2
      have hm1 := hmk.trans m1
      clear q0 q1 q2
      go_wp2_with fail
      refine (markI_any lo hi A2 n2 c2 (r + n) _ (I2.out.mk m1) (by omega) (by omega)).mono ?_
      rintro e w2 ⟨rfl, m2⟩
      have x2 := m2.sl _ _ _ _ _ v2
      have hm2 := hm1.trans m2
      clear v1 v2
      go_wp2_with fail
      refine (markI_any lo hi A3 n3 c3 (r + n + n2) _ ((I3.out.mk m1).mk m2) (by omega) (by omega)).mono ?_
      rintro e w3 ⟨rfl, m3⟩
      have hm3 := hm2.trans m3
      go_wp2_with fail
      go_roundw
      case rel => exact ⟨j + 1, r + n + n2 + n3, by omega, by go_num, rfl, by omega, by omega, hm3⟩
      case measure => simp [intOf]; omega
    · obtain rfl : j = m := by omega
      go_wp2_with fail
      go_ret
      exact ⟨r, rfl, r0, r1, hmk⟩
set_option maxHeartbeats 1000000 in
theorem markBallotS_w (lo hi : Nat) (A : Option Addr) (n c : Nat) (k : Int) (w : World) (h : QW lo hi w A n) (h0 : 0 ≤ k) (h1 : k ≤ 1000) :
    Calls Try.prog 50 #[.slice A n c, .int .i64 k] w fun e w' => ∃ r, e = .returned (.int .i64 r) ∧ 0 ≤ r ∧ r ≤ 4000000000000000000 ∧ MK lo hi w w' := by
  have hn := h.1
  go_enter Try.func50, Try.ntmps50
  go_wp2_with fail
  go_loopw [1, 5] (fun kk i wr => ∃ (j : Nat) (r : Int), j ≤ n ∧ i = .int .i64 j ∧ kk = .int .i64 r ∧ k ≤ r ∧ r ≤ k + j * 3298535931905 ∧ MK lo hi w wr) (fun _ i _ => n - (intOf i).toNat)
  case atStart => exact ⟨0, k, Nat.zero_le _, rfl, rfl, by omega, by omega, MK.refl _ _ _⟩
  case round =>
    obtain ⟨j, r, hj, rfl, rfl, r0, r1, hmk⟩ := hrel
    by_cases hlt : j < n
    · obtain ⟨g, rfl, g1, g2, hc⟩ := (h.mk hmk).2 (by omega)
      obtain ⟨A1, n1, c1, B, m, d, z, q0, q1, q2, f, i1, i2⟩ := hc j hlt
      have I2 := Lib.hid i2
      have l1 := i1.1
      have l2 := i2.1
      clear hc i2
      go_wp2_with fail
      refine (markI_any lo hi A1 n1 c1 r _ i1 (by omega) (by omega)).mono ?_
      rintro e w1 ⟨rfl, m1⟩
      have v1 := m1.sl _ _ _ _ _ q1
      obtain ⟨⟨z1, v2⟩, f1⟩ := m1.num _ _ _ q2
      have hm1 := hmk.trans m1
      rw [f] at f1
      clear q0 q1 q2 f
      go_wp2_with fail
      refine (markBitProofS_w lo hi B m d (r + n1) _ (I2.out.mk m1) (by omega) (by omega)).mono ?_
      rintro e w2 ⟨s, rfl, s0, s1, m2⟩
      obtain ⟨⟨z2, x2⟩, f2⟩ := m2.num _ _ _ v2
      have hm2 := hm1.trans m2
      rw [f1] at f2
      clear v1 v2 f1
      have MS := Lib.hid (hm2.trans (MK.set x2 g1 g2 s))
      go_wp2_with fail
      go_roundw
      case rel => exact ⟨j + 1, s + 1, by omega, by go_num, by go_num, by omega, by omega, MS.out⟩
      case measure => simp [intOf]; omega
    · obtain rfl : j = n := by omega
      go_wp2_with fail
      go_ret
      exact ⟨r, rfl, by omega, by omega, hmk⟩
end Go.Proofs.Ytnjnngnagdhaiaa
