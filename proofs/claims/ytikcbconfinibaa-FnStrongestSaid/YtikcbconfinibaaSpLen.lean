/- r8Strength of a path, walked. -/
import Derived.Test.YtikcbconfinibaaSpCl
namespace Go.Proofs.Ytikcbconfinibaa
set_option linter.unusedVariables false
set_option linter.unusedSimpArgs false
set_option maxRecDepth 100000
open Go.RowKit Go.Deep
theorem take_no {p : List Nat} (nd : p.Nodup) {i x : Nat} (hx : p[i]? = some x) : ((zr p).take i).any (· == (x : Int)) = false := by
  have e : (zr p).take i = zr (p.take i) := by simp [zr, List.map_take]
  rw [e, zr_any]
  rw [← Bool.not_eq_true, List.elem_iff]
  intro hm
  obtain ⟨j, hj⟩ := List.mem_iff_getElem?.1 hm
  rw [List.getElem?_take] at hj
  split at hj
  · rename_i hji
    obtain ⟨l1, g1⟩ := List.getElem?_eq_some_iff.1 hj
    obtain ⟨l2, g2⟩ := List.getElem?_eq_some_iff.1 hx
    exact List.pairwise_iff_getElem.1 nd j i l1 l2 hji (g1.trans g2.symm)
  · simp at hj
set_option maxHeartbeats 4000000 in
theorem r8Strength_ok (n : Nat) (n6 : n ≤ 6) (P : Nat → Nat → Int) (hP : ∀ a b, 0 ≤ P a b ∧ P a b ≤ 432000) (v : Int) (f t : Nat) (hf : f < n) (p : List Nat) (hs : SP n (edgV P v) f p t) (L : Nat) (hL : p.length = L) (h2 : 2 ≤ L)
    (gP cP base : Nat) (vP : List Value) (A : Option Addr) (c : Nat) (w : World) (hM : OwnM w base (some ⟨gP, 0, none⟩) n cP vP (matF n P)) (hI : Ints .i64 w A L c (zr p)) :
    Calls Try.prog 25 #[.slice (some ⟨gP, 0, none⟩) n cP, .slice A L c, .int .i64 f, .int .i64 t] w fun e w' => e = .returned (.int .i64 (lsT P p L)) ∧ ∃ m, w' = w.drewN m := by
  have HM := Lib.hid hM
  have HI := Lib.hid hI
  have HS := Lib.hid hs
  have HL := Lib.hid hL
  have L6 : L ≤ 6 := by have := hs.len hf; omega
  have LT := Lib.hid (fun i x (hx : p[i]? = some x) => hs.lt hf x (List.mem_of_getElem? hx))
  have ED := Lib.hid (fun i x y (hx : p[i]? = some x) (hy : p[i + 1]? = some y) => edgV_iff.1 (hs.edge i x y hx hy))
  have ND := Lib.hid hs.nodup
  have h0 := hs.first
  have hl := hs.last
  rw [hL] at hl
  obtain ⟨b, off, z0, rfl, hb, c0, _, _, hz0⟩ := hI.at (j := 0) (by omega)
  obtain rfl : z0 = (f : Int) := by have := hz0.out; rw [zr_at h0] at this; injection this with this; exact this.symm
  obtain ⟨b', off', z1, e, _, c1, _, _, hz1⟩ := hI.at (j := L - 1) (by omega)
  obtain rfl : z1 = (t : Int) := by have := hz1.out; rw [zr_at hl] at this; injection this with this; exact this.symm
  simp only [Option.some.injEq, Addr.mk.injEq, and_true] at e
  obtain ⟨rfl, rfl⟩ := e
  rw [Nat.add_zero] at c0
  have wl : IntKind.i64.wrap ((L : Int) - 1) = ((L - 1 : Nat) : Int) := by rw [show ((L - 1 : Nat) : Int) = (L : Int) - 1 by omega]; exact IntWalk.i64_in _ (by omega)
  have l2 : decide ((L : Int) < 2) = false := decide_eq_false (by omega)
  have q0 : (0 : Int) < (L : Int) := by omega
  have q1 : (0 : Int) ≤ ((L - 1 : Nat) : Int) := by omega
  have q2 : ((L - 1 : Nat) : Int) < (L : Int) := by omega
  have nf : ((f : Int) != (f : Int)) = false := by simp
  have nt : ((t : Int) != (t : Int)) = false := by simp
  clear hM hs hL h0 hl hz0 hz1 hI
  go_enter Try.func25, Try.ntmps25
  go_wp2_with fail
  clear c0 c1 wl l2 q1 q2 nf nt
  go_loopw [10, 11] (fun s q wr => ∃ i : Nat, i ≤ L ∧ s = .int .i64 (lsT P p i) ∧ q = .int .i64 i ∧ ∃ u, wr = w.drewN u) (fun _ q _ => L - (intOf q).toNat)
  case atStart => exact ⟨0, Nat.zero_le _, rfl, rfl, 0, rfl⟩
  case round =>
    obtain ⟨i, hi, rfl, rfl, u0, hu0⟩ := hrel
    have BB := Lib.hid (show Below w.heap.size w wr from by rw [hu0]; exact below_drewN (Below.refl _ _) u0)
    have HU := Lib.hid (fun m => (show ∃ q, wr.drewN m = w.drewN q from ⟨u0 + m, by rw [hu0]; first | rfl | exact World.drewN_drewN _ _ _ | simp⟩))
    clear hu0
    by_cases hlt : i < L
    · have d0 := decide_eq_true (show (i : Int) < (L : Int) by omega)
      have i0 : (0 : Int) ≤ (i : Int) := by omega
      have i1 : (i : Int) < (L : Int) := by omega
      have i2 : (i : Int) ≤ (L : Int) := by omega
      have i3 : (i : Int) ≤ (c : Int) := by have := HI.out.2.1; omega
      have i4 : i ≤ c := by omega
      obtain ⟨x, hx⟩ : ∃ x, p[i]? = some x := ⟨_, List.getElem?_eq_getElem (by have := HL.out; omega)⟩
      have HX := Lib.hid hx
      have xn := LT.out i x hx
      have I2 := Lib.hid (HI.out.below BB.out)
      obtain ⟨b2, o2, z, e, _, cx, _, _, hz⟩ := I2.out.at hlt
      obtain rfl : z = (x : Int) := by have := hz.out; rw [zr_at hx] at this; injection this with this; exact this.symm
      simp only [Option.some.injEq, Addr.mk.injEq, and_true] at e
      obtain ⟨rfl, rfl⟩ := e
      have dx0 : decide ((x : Int) < 0) = false := decide_eq_false (by omega)
      have dxn : decide ((n : Int) ≤ (x : Int)) = false := decide_eq_false (by omega)
      have TN := Lib.hid (take_no ND.out hx)
      have HH := Lib.hid (fun (W : World) (hW : Ints .i64 W (some ⟨b, off, none⟩) L c (zr p)) => (show Calls Try.prog 14 #[.slice (some ⟨b, off, none⟩) i c, .int .i64 x] W fun e w' => e = .returned (.bool false) ∧ W = w' from by
        have := r8Has_any (some ⟨b, off, none⟩) i c _ (x : Int) W (hW.front (by omega))
        rw [TN.out] at this
        exact this))
      clear hz hx
      go_wp2_with fail
      go_quiet ((go_at_call 14; exact quiet_left (HH.out _ (by exact I2.out))))
      clear TN HH dx0 dxn i3 i4
      rcases Nat.eq_zero_or_pos i with hi0 | hi0
      · subst hi0
        go_wp2_with fail
        go_roundw
        case rel => exact ⟨1, by omega, rfl, by go_num, HU.out _⟩
        case measure => simp [intOf]; omega
      · obtain ⟨j, rfl⟩ : ∃ j, i = j + 1 := ⟨i - 1, by omega⟩
        have e1 : ((((j + 1 : Nat) : Int)) == 0) = false := by show decide _ = false; exact decide_eq_false (by omega)
        have wj : IntKind.i64.wrap (((j + 1 : Nat) : Int) - 1) = (j : Int) := by rw [show ((j + 1 : Nat) : Int) - 1 = (j : Int) by omega]; exact IntWalk.i64_in _ (by omega)
        have j0 : (0 : Int) ≤ (j : Int) := by omega
        have j1 : (j : Int) < (L : Int) := by omega
        obtain ⟨y, hy⟩ : ∃ y, p[j]? = some y := ⟨_, List.getElem?_eq_getElem (by have := HL.out; omega)⟩
        have yn := LT.out j y hy
        obtain ⟨b3, o3, z, e, _, cy, _, _, hz⟩ := I2.out.at (j := j) (by omega)
        obtain rfl : z = (y : Int) := by have := hz.out; rw [zr_at hy] at this; injection this with this; exact this.symm
        simp only [Option.some.injEq, Addr.mk.injEq, and_true] at e
        obtain ⟨rfl, rfl⟩ := e
        obtain ⟨a1, r1, R1⟩ := (HM.out.below BB.out).rowAt yn
        obtain ⟨a2, r2, R2⟩ := (HM.out.below BB.out).rowAt xn
        have u1 := R1.cell
        have x1 := R1.at' x xn
        have u2 := R2.cell
        have x2 := R2.at' y yn
        have LS := Lib.hid (show lsT P p (j + 1 + 1) = if lsT P p (j + 1) < P y x then lsT P p (j + 1) else P y x from by rw [lsT, getD_of hy, getD_of HX.out])
        have lt1 := (ED.out j y x hy HX.out).1
        obtain ⟨u, hu⟩ : ∃ u, P y x = u := ⟨_, rfl⟩
        obtain ⟨v2, hv⟩ : ∃ u, P x y = u := ⟨_, rfl⟩
        rw [hu] at x1 LS lt1
        rw [hv] at x2 lt1
        have du := decide_eq_false (show ¬ u ≤ v2 by omega)
        have x0 : (0 : Int) ≤ (x : Int) := by omega
        have xn' : (x : Int) < (n : Int) := by omega
        have y0 : (0 : Int) ≤ (y : Int) := by omega
        have yn' : (y : Int) < (n : Int) := by omega
        obtain ⟨ls, hls⟩ : ∃ u, lsT P p (j + 1) = u := ⟨_, rfl⟩
        rw [hls] at LS
        rw [hls]
        clear hu hv R1 R2 hy hz hls lt1 hi0
        go_wp2_with fail
        go_quiet (fail)
        go_wp2_with fail
        go_quiet (fail)
        go_wp2_with fail
        refine (r8Least_any _ _ _).mono ?_
        rintro e w9 ⟨rfl, rfl⟩
        rw [← LS.out]
        go_wp2_with fail
        go_roundw
        case rel => exact ⟨j + 1 + 1, by omega, rfl, by go_num, HU.out _⟩
        case measure => simp [intOf]; omega
    · obtain rfl : L = i := by omega
      have d0 := decide_eq_false (show ¬ (L : Int) < (L : Int) by omega)
      go_wp2_with fail
      go_ret
      exact ⟨rfl, HU.out 0⟩
end Go.Proofs.Ytikcbconfinibaa
