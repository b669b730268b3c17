/- The law FnBits: the walk. -/
import Derived.Test.YtnjnngnagdhaiaaBitsLaw
import Derived.Test.YtnjnngnagdhaiaaProve7
import Derived.Test.YtnjnngnagdhaiaaJoined
namespace Go.Proofs.Ytnjnngnagdhaiaa
set_option linter.unusedVariables false
open Go.RowKit
theorem made_given {bit key n0 n1 n2 : Int} (hb : bit = 0 ∨ bit = 1) (hk : expB key = true) (h0 : expB n0 = true) (h1 : expB n1 = true) (h2 : expB n2 = true) :
    ∃ m0 m1 c0 c1 a0 a1, prMV bit key [n0, n1, n2] = [m0, m1] ∧ prCV bit key [n0, n1, n2] = [c0, c1] ∧ prAV bit key [n0, n1, n2] = [a0, a1] ∧ prB bit key [n0, n1, n2] = true ∧ MadeOk bit key m0 m1 c0 c1 a0 a1 := by
  obtain ⟨m0, m1, c0, c1, a0, a1, e1, e2, e3, h⟩ := made_ok hb hk h0 h1 h2
  have R : prB bit key [n0, n1, n2] = true := by
    have e : allB [n0, n1, n2] 3 expB = true := allB_true.2 ⟨rfl, by intro z hz; simp at hz; rcases hz with rfl | rfl | rfl <;> assumption⟩
    simp [prB, hk, e, inR_true.2 (show 0 ≤ bit ∧ bit ≤ 1 by omega)]
  obtain ⟨r1, r2, r3⟩ := pr_yes R
  exact ⟨m0, m1, c0, c1, a0, a1, by rw [r1, e1], by rw [r2, e2], by rw [r3, e3], R, h⟩
theorem ints_far {w : World} {A : Option Addr} {n c ga : Nat} {zs : List Int} (h : Ints .i64 w A (n + 1) c zs) (hg : w.heap.size ≤ ga) : ∀ a, A = some a → some a.block ≠ some ga := by
  intro a ha e
  obtain ⟨b, off, e1, hb, _⟩ := h.2.2.2.2 (by omega)
  rw [ha] at e1
  injection e1 with e1
  subst e1
  injection e with e
  simp at e
  omega
/-- A proof lies in a block. -/
def PfAt (w : World) (p : Value) (m0 m1 c0 c1 a0 a1 : Int) : Prop :=
  ∃ (g : Nat) (A : Option Addr) (c : Nat) (B : Option Addr) (d : Nat) (C : Option Addr) (f : Nat), p = .pointer (some ⟨g, 0, none⟩) ∧ Cs w g [.slice A 2 c, .slice B 2 d, .slice C 2 f] ∧
    Ints .i64 w A 2 c [m0, m1] ∧ Ints .i64 w B 2 d [c0, c1] ∧ Ints .i64 w C 2 f [a0, a1]
theorem pfAt_put {w : World} {g B0 : Nat} {x y z : Value} (h : Cs w g [x, y, z]) (hg : g < B0) {A : Option Addr} {c : Nat} {B : Option Addr} {d : Nat} {C : Option Addr} {f : Nat} {m0 m1 c0 c1 a0 a1 : Int}
    (o1 : OwnI w B0 A 2 c [m0, m1]) (o2 : OwnI w B0 B 2 d [c0, c1]) (o3 : OwnI w B0 C 2 f [a0, a1]) : PfAt (putR w g (.slice A 2 c) (.slice B 2 d) (.slice C 2 f)) (.pointer (some ⟨g, 0, none⟩)) m0 m1 c0 c1 a0 a1 := by
  obtain ⟨D, u1, u2, u3⟩ := putBP h (.slice A 2 c) (.slice B 2 d) (.slice C 2 f) hg o1 o2 o3
  exact ⟨g, A, c, B, d, C, f, rfl, D, u1.ints, u2.ints, u3.ints⟩
set_option maxRecDepth 100000 in
set_option maxHeartbeats 2000000 in
theorem fnBits_walk (w : World) (A : Option Addr) (n c : Nat) (zs : List Int) (h : Ints .u8 w A n c zs) (B : Option Addr) (m d : Nat) (ys : List Int) (k : Ints .u8 w B m d ys) :
    Calls Try.prog 3 #[.slice A n c, .slice B m d] w fun e w' => e = .returned (.bool true) ∧ Below w.heap.size w w' := by
  have hn := h.short
  have hm := k.short
  by_cases h1 : (decide ((48 : Int) < n) || decide ((48 : Int) < m)) = true
  · have H1 := Lib.hid h1
    clear h1
    go_enter Try.func3, Try.ntmps3
    go_wp2_with fail
    refine (r8Long_any A n c B m d _ hn hm).mono ?_
    rintro e w1 ⟨rfl, rfl⟩
    rw [H1.out]
    go_wp2_with fail
    go_ret
    exact ⟨rfl, Below.refl _ _⟩
  · have H1 : Hid ((decide ((48 : Int) < n) || decide ((48 : Int) < m)) = false) := by show _ = _; simpa using h1
    clear h1
    go_enter Try.func3, Try.ntmps3
    go_wp2_with fail
    refine (r8Long_any A n c B m d _ hn hm).mono ?_
    rintro e w1 ⟨rfl, rfl⟩
    rw [H1.out]
    go_wp2_with fail
    refine (r8At_any A n c zs 0 2 _ h (by omega) (by omega)).mono ?_
    rintro e w1 ⟨bit, rfl, hr, b1⟩
    obtain ⟨r0, r1⟩ := hr.lt (by omega)
    clear hr
    go_wp2_with fail
    refine (R8Rows_any B m d ys 2 2 rfl _ (k.below b1) (by omega)).mono ?_
    rintro e w2 ⟨Ar, cr, vs, zss, rfl, hz3, hM, b2⟩
    have b12 := bel_trans b1 b2
    obtain ⟨g, A0, d0, z0, rfl, hg1, hg2, hz0, hc0, ho0, _⟩ := hM.at (j := 0) (by omega)
    obtain ⟨g', A1, d1, z1, eg, _, _, hz1, hc1, ho1, _⟩ := hM.at (j := 1) (by omega)
    simp only [Option.some.injEq, Addr.mk.injEq, and_true] at eg
    subst eg
    obtain ⟨l0, e0⟩ := hz3 z0 (mem_of_at hz0.out)
    obtain ⟨l1, e1⟩ := hz3 z1 (mem_of_at hz1.out)
    rw [l0] at hc0 ho0
    rw [l1] at hc1 ho1
    obtain ⟨key, x1, x2, rfl⟩ : ∃ x y z, z0 = [x, y, z] := by match z0, l0 with | [x, y, z], _ => exact ⟨x, y, z, rfl⟩
    obtain ⟨n0, n1, n2, rfl⟩ : ∃ x y z, z1 = [x, y, z] := by match z1, l1 with | [x, y, z], _ => exact ⟨x, y, z, rfl⟩
    have bk := e0 key (by simp)
    have b0 := e1 n0 (by simp)
    have b1' := e1 n1 (by simp)
    have b2' := e1 n2 (by simp)
    have HK : Hid (expB key = true) := inR_true.2 bk
    have HB2 : Hid (expB (bit + 2) = true) := inR_true.2 ⟨by omega, by omega⟩
    have HBt : Hid (expB bit = true) := inR_true.2 ⟨by omega, by omega⟩
    obtain ⟨m0, m1, c0, c1, a0, a1, P1, P2, P3, P4, MK⟩ := made_given (bit := bit) (key := key) (n0 := n0) (n1 := n1) (n2 := n2) (by omega) HK.out (inR_true.2 b0) (inR_true.2 b1') (inR_true.2 b2')
    obtain ⟨bA, oA, y, rfl, hbA, hcx, q0, q1, hy⟩ := ho0.ints.at (j := 0) (by omega)
    obtain rfl : key = y := by simpa using hy.out
    rw [Nat.add_zero] at hcx
    have K1 := bk.1
    have K2 := bk.2
    have J1 := ho1.ints
    obtain ⟨s, hs⟩ : ∃ x, sealO bit key = x := ⟨_, rfl⟩
    obtain ⟨t, ht⟩ : ∃ x, sealO (bit + 2) key = x := ⟨_, rfl⟩
    have A0' := MK.accepted
    have A1' := MK.other r0
    have A2' := MK.bent0
    have A3' := MK.bent1
    rw [hs] at A0' A2' A3'
    rw [ht] at A1'
    have HS := Lib.hid hs
    have HT := Lib.hid ht
    have R0 := Lib.hid A0'
    have R1 := Lib.hid A1'
    have R2 := Lib.hid A2'
    have R3 := Lib.hid A3'
    have PB := Lib.hid (fun w h => proveBit_any bit key A1 3 d1 [n0, n1, n2] w h)
    rw [P1, P2, P3, P4] at PB
    have bc0 := MK.bc0
    have bc1 := MK.bc1
    have ba0 := MK.ba0
    have ba1 := MK.ba1
    clear hs ht A0' A1' A2' A3' P1 P2 P3 P4 MK bk b0 b1' b2' e0 e1 hz3 hy l0 l1
    go_wp2_with fail
    refine (implSealOf_in bit key s _ HBt.out HK.out HS.out).mono ?_
    rintro e w5 ⟨rfl, rfl⟩
    go_wp2_with fail
    refine (implSealOf_in (bit + 2) key t _ HB2.out HK.out HT.out).mono ?_
    rintro e w5 ⟨rfl, rfl⟩
    go_wp2_with fail
    go_cut [11, 12] (fun p o wx => o = .bool true ∧ PfAt wx p m0 m1 c0 c1 a0 a1 ∧ Below w.heap.size w wx)
    case first =>
      have SS := Lib.hid (fun (W : World) (hb : Below w2.heap.size w2 W) => show _ ∧ _ ∧ _ from ⟨(hb.cell (p := ⟨g, 0, none⟩) hg2).trans hc0, (hb.cell (p := ⟨g, 1, none⟩) hg2).trans hc1, (hb.cell (p := ⟨bA, oA, none⟩) hbA).trans hcx⟩)
      have t0 : Below w2.heap.size w2 w2.drew := (Below.refl _ _).drew
      have t1 := (bel_alloc w2 (.cells #[.slice none 0 0, .slice none 0 0, .slice none 0 0] 31)).drew
      have CN : Cs (w2.alloc (.cells #[.slice none 0 0, .slice none 0 0, .slice none 0 0] 31)).drew w2.heap.size [.slice none 0 0, .slice none 0 0, .slice none 0 0] := (Cs.new w2 [.slice none 0 0, .slice none 0 0, .slice none 0 0] 31).drew
      go_region_held3 (fun w' => w'.cell? ⟨g, 0, none⟩ = some (.slice (some ⟨bA, oA, none⟩) 3 d0) ∧ w'.cell? ⟨g, 1, none⟩ = some (.slice A1 3 d1) ∧ w'.cell? ⟨bA, oA, none⟩ = some (.int .i64 key)) (first | exact ⟨hc0, hc1, hcx⟩ | (refine SS.out _ ?_; first | exact t0 | exact t1 | exact bel_trans t0 b7 | exact bel_trans t1 b7 | exact bel_trans (bel_trans t0 b7) (bel_alloc _ _) | exact (((bel_trans t1 b7).setCell (Nat.le_refl _) _).setCell (Nat.le_refl _) _).setCell (Nat.le_refl _) _)) (first | (go_at_call 15; refine (PB.out _ (by first | exact J1 | exact J1.below t1)).mono ?_; rintro e w7 ⟨A7, c7, B7, d7, C7, f7, rfl, o1, o2, o3, ap, b7⟩; first | (have CN7 := CN.below b7; have x0 := CN7.cell 0 rfl; have x1 := CN7.cell 1 rfl; have x2 := CN7.cell 2 rfl; have y0 := CN7.free 0 rfl; have y1 := CN7.free 1 rfl; have y2 := CN7.free 2 rfl; have BB := bel_trans t1 b7) | have BB := bel_trans t0 b7))
      all_goals
        go_wp2_with fail
        go_meet
      all_goals
        case rel => first | exact ⟨rfl, pfAt_put CN7 (by simp) o1 o2 o3, (((bel_trans b12 BB).setCell (p := ⟨w2.heap.size, 0, none⟩) b12.size _).setCell (p := ⟨w2.heap.size, 1, none⟩) b12.size _).setCell (p := ⟨w2.heap.size, 2, none⟩) b12.size _⟩ | exact ⟨rfl, ⟨w7.heap.size, A7, c7, B7, d7, C7, f7, rfl, Cs.new w7 [.slice A7 2 c7, .slice B7 2 d7, .slice C7 2 f7] _, o1.ints.below (bel_alloc _ _), o2.ints.below (bel_alloc _ _), o3.ints.below (bel_alloc _ _)⟩, bel_trans (bel_trans b12 BB) (bel_alloc _ _)⟩
    case rest =>
      obtain ⟨rfl, ⟨g2, A7, c7, B7, d7, C7, f7, rfl, CG, i1, i2, i3⟩, hbel⟩ := hcut
      clear hc0 hc1 hcx J1 ho0 ho1 hM b12 b2
      obtain ⟨W7, hW7⟩ : ∃ W, W = wc := ⟨_, rfl⟩
      subst hW7
      have q0a := CG.cell 0 rfl
      have q1a := CG.cell 1 rfl
      have q2a := CG.cell 2 rfl
      have f0a := CG.free 0 rfl
      have f1a := CG.free 1 rfl
      have f2a := CG.free 2 rfl
      have lta := CG.1
      go_wp2_with fail
      refine (isBitProof_any s A7 2 c7 [m0, m1] B7 2 d7 [c0, c1] C7 2 f7 [a0, a1] _ i1 i2 i3).mono ?_
      rintro e w8 ⟨rfl, b8⟩
      rw [R0.out]
      have C8 := CG.below b8
      have I1 := i1.below b8
      have I2 := i2.below b8
      have I3 := i3.below b8
      have bb8 := bel_trans hbel b8
      have q0b := C8.cell 0 rfl
      have q1b := C8.cell 1 rfl
      have q2b := C8.cell 2 rfl
      have f0b := C8.free 0 rfl
      have f1b := C8.free 1 rfl
      have f2b := C8.free 2 rfl
      have ltb := C8.1
      clear q0a q1a q2a f0a f1a f2a lta
      obtain ⟨bB, oB, y0, rfl, hbB, hy0, _, _, e0⟩ := I2.at (j := 0) (by omega)
      obtain ⟨bB', oB', y1, eB, _, hy1, _, _, e1⟩ := I2.at (j := 1) (by omega)
      simp only [Option.some.injEq, Addr.mk.injEq, and_true] at eB
      obtain ⟨rfl, rfl⟩ := eB
      obtain rfl : c0 = y0 := by simpa using e0.out
      obtain rfl : c1 = y1 := by simpa using e1.out
      rw [Nat.add_zero] at hy0
      obtain ⟨bC, oC, y0, rfl, hbC, hx0, _, _, e2⟩ := I3.at (j := 0) (by omega)
      obtain ⟨bC', oC', y1, eC, _, hx1, _, _, e3⟩ := I3.at (j := 1) (by omega)
      simp only [Option.some.injEq, Addr.mk.injEq, and_true] at eC
      obtain ⟨rfl, rfl⟩ := eC
      obtain rfl : a0 = y0 := by simpa using e2.out
      obtain rfl : a1 = y1 := by simpa using e3.out
      rw [Nat.add_zero] at hx0
      clear e0 e1 e2 e3
      have X1 : IntKind.i64.wrap (c0 + c1) = c0 + c1 := IntWalk.i64_in _ (by omega)
      go_wp2_with fail
      go_cut [98] (fun p wx => p = .bool false ∧ Below w8.heap.size w8 wx)
      case first =>
        have t0 : Below w8.heap.size w8 w8.drew := (Below.refl _ _).drew
        by_cases hc : 0 < c0 + c1
        · have RF := Lib.hid (R1.out hc)
          have SS := Lib.hid (fun (W : World) (hb : Below w8.heap.size w8 W) => show _ ∧ _ ∧ _ ∧ _ ∧ _ from ⟨(hb.cell (p := ⟨g2, 0, none⟩) ltb).trans q0b, (hb.cell (p := ⟨g2, 1, none⟩) ltb).trans q1b, (hb.cell (p := ⟨g2, 2, none⟩) ltb).trans q2b, (hb.cell (p := ⟨bB, oB, none⟩) hbB).trans hy0, (hb.cell (p := ⟨bB, oB + 1, none⟩) hbB).trans hy1⟩)
          go_region_held3 (fun w' => w'.cell? ⟨g2, 0, none⟩ = some (.slice A7 2 c7) ∧ w'.cell? ⟨g2, 1, none⟩ = some (.slice (some ⟨bB, oB, none⟩) 2 d7) ∧ w'.cell? ⟨g2, 2, none⟩ = some (.slice (some ⟨bC, oC, none⟩) 2 f7) ∧ w'.cell? ⟨bB, oB, none⟩ = some (.int .i64 c0) ∧ w'.cell? ⟨bB, oB + 1, none⟩ = some (.int .i64 c1)) (first | exact SS.out _ t0 | exact SS.out _ (Below.refl _ _) | exact SS.out _ (bel_trans t0 b9)) (first | (go_at_call 16; refine (isBitProof_any t A7 2 c7 [m0, m1] _ 2 d7 [c0, c1] _ 2 f7 [a0, a1] _ (by exact I1) (by exact I2) (by exact I3)).mono ?_; rintro e w9 ⟨rfl, b9⟩; rw [RF.out]))
          all_goals
            go_wp2_with fail
            go_meet
          all_goals
            case rel => exact ⟨rfl, bel_trans t0 b9⟩
        · have hd : decide (0 < c0 + c1) = false := by simpa using hc
          go_quiet (fail)
          go_wp2_with fail
          go_meet
          case rel => exact ⟨rfl, below_drewN (Below.refl _ _) _⟩
      case rest =>
        obtain ⟨rfl, b9⟩ := hcut
        obtain ⟨W9, hW9⟩ : ∃ W, W = wc := ⟨_, rfl⟩
        subst hW9
        have q0c := (b9.cell (p := ⟨g2, 0, none⟩) ltb).trans q0b
        have q1c := (b9.cell (p := ⟨g2, 1, none⟩) ltb).trans q1b
        have q2c := (b9.cell (p := ⟨g2, 2, none⟩) ltb).trans q2b
        have x0c := (b9.cell (p := ⟨bC, oC, none⟩) hbC).trans hx0
        have x1c := (b9.cell (p := ⟨bC, oC + 1, none⟩) hbC).trans hx1
        have bb9 := bel_trans bb8 b9
        have z89 := b9.size
        clear q0b q1b q2b f0b f1b f2b hx0 hx1 X1
        go_wp2_with fail
        refine (r8At_any A n c zs 1 2 _ (h.below bb9) (by omega) (by omega)).mono ?_
        rintro e wd ⟨kk, rfl, hkk, bd⟩
        obtain ⟨k0, k1⟩ := hkk.lt (by omega)
        have ltd : ∀ b, b < w8.heap.size → b < W9.heap.size := fun b hb => by omega
        have q0d := (bd.cell (p := ⟨g2, 0, none⟩) (ltd _ ltb)).trans q0c
        have q1d := (bd.cell (p := ⟨g2, 1, none⟩) (ltd _ ltb)).trans q1c
        have q2d := (bd.cell (p := ⟨g2, 2, none⟩) (ltd _ ltb)).trans q2c
        have x0d := (bd.cell (p := ⟨bC, oC, none⟩) (ltd _ hbC)).trans x0c
        have x1d := (bd.cell (p := ⟨bC, oC + 1, none⟩) (ltd _ hbC)).trans x1c
        have bbd := bel_trans bb9 bd
        have zd := bd.size
        have ltgd : g2 < wd.heap.size := by omega
        have ltCd : bC < wd.heap.size := by omega
        have ltBd : bB < wd.heap.size := by omega
        have J1 := (I1.below b9).below bd
        have J2 := (I2.below b9).below bd
        clear q0c q1c q2c x0c x1c ltd z89 zd
        go_wp2_with fail
        go_cut [14] (fun p wx => ∃ ga : Nat, p = .slice (some ⟨ga, 0, none⟩) 2 2 ∧ wd.heap.size ≤ ga ∧ Cs wx ga [.int .i64 a0, .int .i64 a1] ∧ Below wd.heap.size wd wx)
        case first =>
          have t1 := (bel_alloc wd (.cells #[.int .i64 a0, .int .i64 a1] 2)).drew
          have SS := Lib.hid (fun (W : World) (hb : Below wd.heap.size wd W) => show _ ∧ _ ∧ _ from ⟨(hb.cell (p := ⟨g2, 2, none⟩) ltgd).trans q2d, (hb.cell (p := ⟨bC, oC, none⟩) ltCd).trans x0d, (hb.cell (p := ⟨bC, oC + 1, none⟩) ltCd).trans x1d⟩)
          go_region_held3 (fun w' => w'.cell? ⟨g2, 2, none⟩ = some (.slice (some ⟨bC, oC, none⟩) 2 f7) ∧ w'.cell? ⟨bC, oC, none⟩ = some (.int .i64 a0) ∧ w'.cell? ⟨bC, oC + 1, none⟩ = some (.int .i64 a1)) (first | exact ⟨q2d, x0d, x1d⟩ | exact SS.out _ t1) (fail)
          all_goals
            go_wp2_with fail
            go_meet
          all_goals
            case rel => exact ⟨wd.heap.size, rfl, Nat.le_refl _, (Cs.new wd [.int .i64 a0, .int .i64 a1] _).drew, t1⟩
        case rest =>
          obtain ⟨ga, rfl, hga, CA, be⟩ := hcut
          obtain ⟨We, hWe⟩ : ∃ W, W = wc := ⟨_, rfl⟩
          subst hWe
          have q0e := (be.cell (p := ⟨g2, 0, none⟩) ltgd).trans q0d
          have q1e := (be.cell (p := ⟨g2, 1, none⟩) ltgd).trans q1d
          have ae0 := CA.cell 0 rfl
          have ae1 := CA.cell 1 rfl
          have fe0 := CA.free 0 rfl
          have fe1 := CA.free 1 rfl
          have K1 := J1.below be
          have K2 := J2.below be
          have bbe := bel_trans bbd be
          have hgw : w.heap.size ≤ ga := Nat.le_trans bbd.size hga
          obtain ⟨hne1, hne2⟩ : g2 ≠ ga ∧ bB ≠ ga := ⟨by omega, by omega⟩
          clear q0d q1d q2d x0d x1d
          have fA := Lib.hid (ints_far J1 hga)
          have fB := Lib.hid (ints_far J2 hga)
          rcases (show kk = 0 ∨ kk = 1 by omega) with rfl | rfl
          · go_wp2_with fail
            refine (isBitProof_any s A7 2 c7 [m0, m1] _ 2 d7 [c0, c1] (some ⟨ga, 0, none⟩) 2 2 [(a0 + 1) % 500000003, a1] _ (K1.kept (grown_set We ga 0 _) fA.out) (K2.kept (grown_set We ga 0 _) fB.out) ((CA.set 0 (.int .i64 ((a0 + 1) % 500000003)) (by simp)).ints (n := 2) [(a0 + 1) % 500000003, a1] rfl rfl (by decide) (by intro z hz; simp at hz; omega))).mono ?_
            rintro e wf ⟨rfl, bf⟩
            rw [R2.out]
            go_wp2_with fail
            go_ret
            exact ⟨rfl, bel_trans (bbe.setCell (p := ⟨ga, 0, none⟩) hgw _) bf⟩
          · go_wp2_with fail
            refine (isBitProof_any s A7 2 c7 [m0, m1] _ 2 d7 [c0, c1] (some ⟨ga, 0, none⟩) 2 2 [a0, (a1 + 1) % 500000003] _ (K1.kept (grown_set We ga 1 _) fA.out) (K2.kept (grown_set We ga 1 _) fB.out) ((CA.set 1 (.int .i64 ((a1 + 1) % 500000003)) (by simp)).ints (n := 2) [a0, (a1 + 1) % 500000003] rfl rfl (by decide) (by intro z hz; simp at hz; omega))).mono ?_
            rintro e wf ⟨rfl, bf⟩
            rw [R3.out]
            go_wp2_with fail
            go_ret
            exact ⟨rfl, bel_trans (bbe.setCell (p := ⟨ga, 1, none⟩) hgw _) bf⟩
end Go.Proofs.Ytnjnngnagdhaiaa
