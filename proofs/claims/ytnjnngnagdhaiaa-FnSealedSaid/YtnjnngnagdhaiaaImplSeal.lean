/- The program's SealBallot; a made ballot in a range of blocks. -/
import Derived.Test.YtnjnngnagdhaiaaSpecMake
import Derived.Test.YtnjnngnagdhaiaaSpecSeal
import Derived.Test.YtnjnngnagdhaiaaRwsLaw
import Derived.Test.YtnjnngnagdhaiaaBalHeld2
namespace Go.Proofs.Ytnjnngnagdhaiaa
set_option linter.unusedVariables false
set_option linter.unusedSimpArgs false
set_option maxRecDepth 100000
open Go.RowKit
section
variable {lo : Nat} {w : World} {A : Option Addr} {n c : Nat} {ss : List Int} {B : Option Addr} {m d : Nat} {hv : List Value} {ps : List Bp}
/-- A proof more: its lists were there before the seals' last block. -/
theorem PB.proof2 (h : PB lo w A n c ss B m d hv ps) {w2 : World} {L : Nat} {ms cs as_ : List Int} {A1 A2 A3 : Option Addr} {c1 c2 c3 : Nat} (hl : lo ≤ L) (hV : ∀ v ∈ hv, ∀ g, v.ownBlock = some g → g < L)
    (o1 : OwnI w L A1 ms.length c1 ms) (o2 : OwnI w L A2 cs.length c2 cs) (o3 : OwnI w L A3 as_.length c3 as_)
    (ap : Apart (.slice A1 ms.length c1) (.slice A2 cs.length c2) ∧ Apart (.slice A1 ms.length c1) (.slice A3 as_.length c3) ∧ Apart (.slice A2 cs.length c2) (.slice A3 as_.length c3))
    (ax : Apart (.slice A n c) (.slice A1 ms.length c1) ∧ Apart (.slice A n c) (.slice A2 cs.length c2) ∧ Apart (.slice A n c) (.slice A3 as_.length c3))
    {B' : Option Addr} {d' : Nat} (hd' : w2.ownsRow lo 31 3 (.slice B' (m + 1) d') (m + 1) (hv ++ [.slice A1 ms.length c1, .slice A2 cs.length c2, .slice A3 as_.length c3])) (hg : w.grownBy w2 (Value.slice B m d).ownBlock) :
    PB lo w2 A n c ss B' (m + 1) d' (hv ++ [.slice A1 ms.length c1, .slice A2 cs.length c2, .slice A3 as_.length c3]) (ps ++ [⟨ms, cs, as_⟩]) := by
  have keep : ∀ {B0 : Option Addr} {m0 d0 b0 : Nat} {us : List Int}, OwnI w b0 B0 m0 d0 us → OwnI w2 b0 B0 m0 d0 us := fun hu => hu.kept hg (own_ne hu.1 h.hd (by decide))
  refine ⟨keep h.own, hd', by simp [h.len], fun j zs e => ?_, ?_⟩
  · rw [fl3_snoc] at e
    have hfl : (fl3 ps).length = hv.length := by rw [fl3_len, h.len, h.hlen]
    by_cases hj : j < (fl3 ps).length
    · rw [List.getElem?_append_left hj] at e
      obtain ⟨A', c', e1, o⟩ := h.row j zs e
      exact ⟨A', c', by rw [List.getElem?_append_left (by omega)]; exact e1, keep o⟩
    · rw [List.getElem?_append_right (by omega)] at e
      obtain ⟨i, hi⟩ : ∃ i, j - (fl3 ps).length = i := ⟨_, rfl⟩
      rw [hi] at e
      rw [List.getElem?_append_right (by omega), ← hfl, hi]
      match i, e with
      | 0, e => simp at e; subst e; exact ⟨A1, c1, rfl, (keep o1).mono hl⟩
      | 1, e => simp at e; subst e; exact ⟨A2, c2, rfl, (keep o2).mono hl⟩
      | 2, e => simp at e; subst e; exact ⟨A3, c3, rfl, (keep o3).mono hl⟩
      | i + 3, e => simp at e
  · have hp := List.pairwise_cons.1 h.apart
    have n1 := apart_new (base := 0) hV o1
    have n2 := apart_new (base := 0) hV o2
    have n3 := apart_new (base := 0) hV o3
    rw [← List.cons_append]
    refine List.pairwise_append.2 ⟨h.apart, ?_, fun u hu v hv' => ?_⟩
    · simp only [List.pairwise_cons, List.mem_cons, List.not_mem_nil, or_false, false_imp_iff, implies_true, List.Pairwise.nil, and_true]
      refine ⟨fun v hv' => ?_, fun v hv' => by subst hv'; exact ap.2.2⟩
      rcases hv' with rfl | rfl
      · exact ap.1
      · exact ap.2.1
    · simp only [List.mem_cons, List.not_mem_nil, or_false] at hv'
      rcases List.mem_cons.1 hu with rfl | hu
      · rcases hv' with rfl | rfl | rfl
        · exact ax.1
        · exact ax.2.1
        · exact ax.2.2
      · rcases hv' with rfl | rfl | rfl
        · exact n1 u hu
        · exact n2 u hu
        · exact n3 u hu
end
/-- The variable, its lists, the proof's block and its lists. -/
structure SQ (lo L r g : Nat) (w0 w : World) (u0 k : Value) (A : Option Addr) (n c : Nat) (ss : List Int) (B : Option Addr) (m d : Nat) (hv : List Value) (ps : List Bp) (ms cs as_ : List Int) (A1 : Option Addr) (c1 : Nat) (A2 : Option Addr) (c2 : Nat) (A3 : Option Addr) (c3 : Nat) : Prop where
  bo : BO w g u0 (.slice B m d) k
  pb : PB lo w A n c ss B m d hv ps
  cr : Cs w r [.slice A1 ms.length c1, .slice A2 cs.length c2, .slice A3 as_.length c3]
  o1 : OwnI w L A1 ms.length c1 ms
  o2 : OwnI w L A2 cs.length c2 cs
  o3 : OwnI w L A3 as_.length c3 as_
  ap : Apart (.slice A1 ms.length c1) (.slice A2 cs.length c2) ∧ Apart (.slice A1 ms.length c1) (.slice A3 as_.length c3) ∧ Apart (.slice A2 cs.length c2) (.slice A3 as_.length c3)
  ax : Apart (.slice A n c) (.slice A1 ms.length c1) ∧ Apart (.slice A n c) (.slice A2 cs.length c2) ∧ Apart (.slice A n c) (.slice A3 as_.length c3)
  old : ∀ v ∈ hv, ∀ q, v.ownBlock = some q → q < L
  bel : Below w0.heap.size w0 w
section
variable {lo L r g : Nat} {w0 w : World} {u0 k : Value} {A : Option Addr} {n c : Nat} {ss : List Int} {B : Option Addr} {m d : Nat} {hv : List Value} {ps : List Bp} {ms cs as_ : List Int} {A1 : Option Addr} {c1 : Nat} {A2 : Option Addr} {c2 : Nat} {A3 : Option Addr} {c3 : Nat}
theorem SQ.below (h : SQ lo L r g w0 w u0 k A n c ss B m d hv ps ms cs as_ A1 c1 A2 c2 A3 c3) {w' : World} (b : Below w.heap.size w w') : SQ lo L r g w0 w' u0 k A n c ss B m d hv ps ms cs as_ A1 c1 A2 c2 A3 c3 :=
  ⟨h.bo.below b, h.pb.below b, h.cr.below b, h.o1.below b, h.o2.below b, h.o3.below b, h.ap, h.ax, h.old, bel_trans h.bel b⟩
theorem SQ.drew (h : SQ lo L r g w0 w u0 k A n c ss B m d hv ps ms cs as_ A1 c1 A2 c2 A3 c3) : SQ lo L r g w0 w.drew u0 k A n c ss B m d hv ps ms cs as_ A1 c1 A2 c2 A3 c3 :=
  ⟨h.bo.drew, h.pb.drew, h.cr.drew, h.o1.drew, h.o2.drew, h.o3.drew, h.ap, h.ax, h.old, ⟨h.bel.os, h.bel.tape, h.bel.output, h.bel.size, h.bel.block⟩⟩
/-- A seal more. -/
theorem SQ.seal (h : SQ lo L r g w0 w u0 k A n c ss B m d hv ps ms cs as_ A1 c1 A2 c2 A3 c3) (hA : ∀ q, (Value.slice A n c).ownBlock = some q → q < r) (h0 : w0.heap.size ≤ lo) {w1 : World} {A' : Option Addr} {n' c' : Nat} {ss' : List Int}
    (o : OwnI w1 lo A' n' c' ss') (hg : w.grownBy w1 (Value.slice A n c).ownBlock) (hn : NewBlk w (.slice A n c) (.slice A' n' c')) : SQ lo L r g w0 w1 u0 k A' n' c' ss' B m d hv ps ms cs as_ A1 c1 A2 c2 A3 c3 :=
  have st : ∀ {A1 : Option Addr} {m1 c1 : Nat} {zs : List Int}, OwnI w L A1 m1 c1 zs → Apart (.slice A n c) (.slice A1 m1 c1) → Apart (.slice A' n' c') (.slice A1 m1 c1) := fun o1 a => apart_step a hn fun g hg => (o1.block g hg).2
  ⟨h.bo.keepS h.pb.own hg, h.pb.seal o hg hn, h.cr.kept hg (fun e => absurd (hA r e.symm) (Nat.lt_irrefl _)), h.o1.kept hg h.ax.1.symm, h.o2.kept hg h.ax.2.1.symm, h.o3.kept hg h.ax.2.2.symm, h.ap,
    ⟨st h.o1 h.ax.1, st h.o2 h.ax.2.1, st h.o3 h.ax.2.2⟩, h.old, h.bel.grown hg h.bel.size fun q hq => Nat.le_trans h0 (h.pb.own.block q hq).1⟩
/-- The proof is laid in. -/
theorem SQ.proof (h : SQ lo L r g w0 w u0 k A n c ss B m d hv ps ms cs as_ A1 c1 A2 c2 A3 c3) (hl : lo ≤ L) (h0 : w0.heap.size ≤ lo) {w2 : World} {B' : Option Addr} {d' : Nat}
    (hd' : w2.ownsRow lo 31 3 (.slice B' (m + 1) d') (m + 1) (hv ++ [.slice A1 ms.length c1, .slice A2 cs.length c2, .slice A3 as_.length c3])) (hg : w.grownBy w2 (Value.slice B m d).ownBlock) :
    PB lo w2 A n c ss B' (m + 1) d' (hv ++ [.slice A1 ms.length c1, .slice A2 cs.length c2, .slice A3 as_.length c3]) (ps ++ [⟨ms, cs, as_⟩]) ∧ BO w2 g u0 (.slice B m d) k ∧ Below w0.heap.size w0 w2 :=
  ⟨h.pb.proof2 hl h.old h.o1 h.o2 h.o3 h.ap h.ax hd' hg, h.bo.keepP h.pb.hd hg, h.bel.grown hg h.bel.size fun q hq => Nat.le_trans h0 (h.pb.hd.lt q hq).1⟩
/-- What the region reads. -/
theorem SQ.reads (h : SQ lo L r g w0 w u0 k A n c ss B m d hv ps ms cs as_ A1 c1 A2 c2 A3 c3) : w.cell? ⟨g, 0, none⟩ = some u0 ∧ w.cell? ⟨g, 1, none⟩ = some (.slice B m d) ∧ w.cell? ⟨r, 0, none⟩ = some (.slice A1 ms.length c1) ∧ w.cell? ⟨r, 1, none⟩ = some (.slice A2 cs.length c2) ∧ w.cell? ⟨r, 2, none⟩ = some (.slice A3 as_.length c3) :=
  ⟨h.bo.cells.1, h.bo.cells.2.1, h.cr.cell 0 rfl, h.cr.cell 1 rfl, h.cr.cell 2 rfl⟩
end
theorem zeroSB {w w1 : World} (C : Cs w1 w.heap.size [.slice none 0 0, .slice none 0 0, .int .i64 0]) (b : Below w.heap.size w w1) :
    ∃ wz, ((w1.setCell ⟨w.heap.size, 0, none⟩ (.slice none 0 0)).setCell ⟨w.heap.size, 1, none⟩ (.slice none 0 0)).setCell ⟨w.heap.size, 2, none⟩ (.int .i64 0) = wz ∧ Below w.heap.size w wz ∧
      wz.cell? ⟨w.heap.size, 0, none⟩ = some (.slice none 0 0) ∧ wz.cell? ⟨w.heap.size, 1, none⟩ = some (.slice none 0 0) ∧ wz.cell? ⟨w.heap.size, 2, none⟩ = some (.int .i64 0) := by
  have D1 := ((C.set 0 (.slice none 0 0) (by simp)).set 1 (.slice none 0 0) (by simp)).set 2 (.int .i64 0) (by simp)
  exact ⟨_, rfl, ((b.setCell (p := ⟨w.heap.size, 0, none⟩) (Nat.le_refl _) (.slice none 0 0)).setCell (p := ⟨w.heap.size, 1, none⟩) (Nat.le_refl _) (.slice none 0 0)).setCell (p := ⟨w.heap.size, 2, none⟩) (Nat.le_refl _) (.int .i64 0),
    D1.cell 0 (v := .slice none 0 0) (by simp), D1.cell 1 (v := .slice none 0 0) (by simp), D1.cell 2 (v := .int .i64 0) (by simp)⟩
set_option maxHeartbeats 2000000 in
theorem sealBallot_any (vote : Int) (v0 : -9223372036854775808 ≤ vote) (v1 : vote ≤ 9223372036854775807) (A : Option Addr) (n c : Nat) (ks : List Int) (C : Option Addr) (m f : Nat) (nss : List (List Int)) (w : World) (hk : Ints .i64 w A n c ks) (hn : Rws w C m f nss) :
    Calls Try.prog 27 #[.int .i64 vote, .slice A n c, .slice C m f] w (GivesSB (slV vote ks nss) (slB vote ks nss) w) := by
  have b0 := bel_alloc w (.cells [.slice none 0 0, .slice none 0 0, .int .i64 0].toArray 48)
  have C0 := Cs.new w [.slice none 0 0, .slice none 0 0, .int .i64 0] 48
  have q0z := C0.cell 0 rfl
  have q1z := C0.cell 1 rfl
  have q2z := C0.cell 2 rfl
  have f0z := C0.free 0 rfl
  have f1z := C0.free 1 rfl
  have f2z := C0.free 2 rfl
  have ltz := C0.1
  have k3 := hk.short
  have n3 := hn.short
  have E := slB_eq vote ks nss
  rw [hn.1] at E
  cases hb : voteB vote
  · have R : Hid (slB vote ks nss = false) := by show _ = _; rw [E, hb]; rfl
    have HB := Lib.hid hb
    clear hb E
    go_enter Try.func27, Try.ntmps27
    go_wp2_with fail
    refine (isVote_any _ _).mono ?_
    rintro e w' ⟨rfl, rfl⟩
    rw [HB.out]
    go_wp2_with fail
    exact bodyPost_ret (v := .tuple #[.agg #[.slice none 0 0, .slice none 0 0, .int .i64 0], .bool false]) (by simp [results, Try.results27, go_sem]) rfl (givesSB_bad R.out b0)
  · cases hz : allB ks 3 expB
    · have R : Hid (slB vote ks nss = false) := by show _ = _; rw [E, hz]; simp
      have HB := Lib.hid hb
      have HZ := Lib.hid hz
      clear hb hz E
      go_enter Try.func27, Try.ntmps27
      go_wp2_with fail
      refine (isVote_any _ _).mono ?_
      rintro e w' ⟨rfl, rfl⟩
      rw [HB.out]
      go_wp2_with fail
      refine (areAll_isExponent _ n c ks 3 _ (hk.below b0)).mono ?_
      rintro e w1 ⟨rfl, b1⟩
      rw [HZ.out]
      have D1 := C0.below b1
      have q0a := D1.cell 0 rfl
      have q1a := D1.cell 1 rfl
      have q2a := D1.cell 2 rfl
      have f0a := D1.free 0 rfl
      have f1a := D1.free 1 rfl
      have f2a := D1.free 2 rfl
      have lta := D1.1
      go_wp2_with fail
      obtain ⟨wz, hwz, hbl, d0, d1, d2⟩ := zeroSB D1 (bel_trans b0 b1)
      rw [hwz]
      exact bodyPost_ret (v := .tuple #[.agg #[.slice none 0 0, .slice none 0 0, .int .i64 0], .bool false]) (by simp [results, Try.results27, go_sem, d0, d1, d2]) rfl (givesSB_bad R.out hbl)
    · by_cases hm : m = 3
      · subst hm
        have n3' : n = 3 := by have h1 := hk.1; have h2 := (allB_true.1 hz).1; omega
        subst n3'
        have ER : Hid (slB vote ks nss = rowsE nss) := by show _ = _; rw [E, hb, hz]; simp
        have bv := voteB_true hb
        have HB := Lib.hid hb
        have HZ := Lib.hid hz
        have KS := Lib.hid (allB_true.1 hz).2
        have l3 := hk.1
        have m3 := hn.1
        clear hb hz E
        go_enter Try.func27, Try.ntmps27
        go_wp2_with fail
        refine (isVote_any _ _).mono ?_
        rintro e w' ⟨rfl, rfl⟩
        rw [HB.out]
        go_wp2_with fail
        refine (areAll_isExponent _ 3 c ks 3 _ (hk.below b0)).mono ?_
        rintro e w1 ⟨rfl, b1⟩
        rw [HZ.out]
        obtain ⟨w0, hw0⟩ : ∃ x, w.alloc (.cells [.slice none 0 0, .slice none 0 0, .int .i64 0].toArray 48) = x := ⟨_, rfl⟩
        have sz0 : w0.heap.size = w.heap.size + 1 := by rw [← hw0]; simp
        rw [hw0] at b0 C0 b1
        have RR := Lib.hid C0
        have x0 := b0
        obtain ⟨g, hg⟩ : ∃ g, w1.heap.size = g := ⟨_, rfl⟩
        have B5 := Lib.hid (BO.new w1 (.slice none 0 0) (.slice none 0 0) (.int .i64 0))
        have W0 := Lib.hid (bel_trans b1 (bel_alloc w1 (.cells #[.slice none 0 0, .slice none 0 0, .int .i64 0] 48)))
        have P5 := Lib.hid (pb_nil (w.heap.size + 1) (w1.alloc (.cells #[.slice none 0 0, .slice none 0 0, .int .i64 0] 48)))
        rw [hg] at B5
        have hgw : w0.heap.size ≤ g := by rw [← hg]; exact b1.size
        clear C0 q0z q1z q2z f0z f1z f2z ltz hw0
        go_wp2_with fail
        go_loopw [31] (fun i wr => ∃ (j : Nat) (A' : Option Addr) (c' : Nat) (B : Option Addr) (d : Nat) (hv : List Value), j ≤ 3 ∧ i = .int .i64 j ∧ BO wr g (.slice A' j c') (.slice B j d) (.int .i64 (slK ks j)) ∧ PB (w.heap.size + 1) wr A' j c' (slS vote ks j) B j d hv (slP vote ks nss j) ∧ Below w0.heap.size w0 wr ∧ rowsE (nss.take j) = true) (fun i _ => 3 - (intOf i).toNat)
        case atStart => exact ⟨0, _, _, _, _, _, by omega, rfl, B5.out, P5.out, W0.out, rfl⟩
        case round =>
          obtain ⟨j, A', c', B, d, hv, hj, rfl, hBO, hPB, hbel, hall⟩ := hrel
          have HV := Lib.hid hBO
          have HP := Lib.hid hPB
          have HL := Lib.hid hbel
          have HA := Lib.hid hall
          clear hBO hPB hbel hall
          by_cases hlt : j < 3
          · obtain ⟨b, off, x, rfl, hb, hcell, zz1, zz2, hx⟩ := hk.at hlt
            obtain ⟨bk, ok, Ak, mk, e1, ns, rfl, hbk, ck, ik, hns⟩ := hn.at hlt
            have ex := expB_true (KS.out x (mem_of_at hx.out))
            have hd3 : decide ((j : Int) < 3) = true := by simp; omega
            have ji3 : (j : Int) < 3 := by omega
            have ji0 : (0 : Int) ≤ (j : Int) := by omega
            have cx := ((bel_trans x0 HL.out).cell (p := ⟨b, off + j, none⟩) hb).trans hcell
            have ckr := ((bel_trans x0 HL.out).cell (p := ⟨bk, ok + j, none⟩) hbk).trans ck
            have IK := Lib.hid (ik.below (bel_trans x0 HL.out))
            clear hcell ck ik
            by_cases hbit : (j : Int) = vote
            · have EB := Lib.hid (show bitOf vote j = 1 by simp [bitOf, hbit])
              subst hbit
              cases hp : allB ns 3 expB
              · have R : Hid (slB (j : Int) ks nss = false) := by show _ = _; rw [ER.out]; exact all_stop (p := fun l => allB l 3 expB) hns.out hp
                have PRV := proveBit_any 1 x Ak mk e1 ns wr IK.out
                have RB : prB 1 x ns = false := by simp [prB, hp]
                obtain ⟨q1, q2, q3⟩ := pr_no RB
                rw [q1, q2, q3, RB] at PRV
                have PRH := Lib.hid PRV
                have C0w := Lib.hid (RR.out.below HL.out)
                clear PRV RB q1 q2 q3 hp IK
                go_wp2_with fail
                refine PRH.out.mono ?_
                rintro e w9 ⟨A1, c1, A2, c2, A3, c3, rfl, o1, o2, o3, ap, b9⟩
                have D1 := (C0w.out.below b9).below (bel_alloc w9 (.cells #[.slice A1 0 c1, .slice A2 0 c2, .slice A3 0 c3] 31))
                have q0a := D1.cell 0 rfl
                have q1a := D1.cell 1 rfl
                have q2a := D1.cell 2 rfl
                have f0a := D1.free 0 rfl
                have f1a := D1.free 1 rfl
                have f2a := D1.free 2 rfl
                have lta := D1.1
                go_wp2_with fail
                obtain ⟨wz, hwz, hbl, d0, d1, d2⟩ := zeroSB D1 (bel_trans (bel_trans (bel_trans x0 HL.out) b9) (bel_alloc w9 (.cells #[.slice A1 0 c1, .slice A2 0 c2, .slice A3 0 c3] 31)))
                rw [hwz]
                exact bodyPost_ret (v := .tuple #[.agg #[.slice none 0 0, .slice none 0 0, .int .i64 0], .bool false]) (by simp [results, Try.results27, go_sem, d0, d1, d2]) rfl (givesSB_bad R.out hbl)
              · have CS := Lib.hid (show slS (j : Int) ks (j + 1) = slS (j : Int) ks j ++ [sealO 1 x] by rw [slS_succ (j : Int) ks hx.out, EB.out])
                have CP := Lib.hid (show slP (j : Int) ks nss (j + 1) = slP (j : Int) ks nss j ++ [⟨prM 1 x ns, prC 1 x ns, prA 1 x ns⟩] by rw [slP_succ (j : Int) ks nss hx.out hns.out, EB.out])
                have CK := slK_succ ks hx.out
                have kb := slK_bd ks j
                have PRV := proveBit_any 1 x Ak mk e1 ns wr IK.out
                have RB : prB 1 x ns = true := by simp [prB, hp, KS.out x (mem_of_at hx.out)]; decide
                obtain ⟨q1, q2, q3⟩ := pr_yes RB
                rw [q1, q2, q3, RB] at PRV
                have NX := Lib.hid (all_next (p := fun l => allB l 3 expB) hns.out HA.out hp)
                obtain ⟨s, hs⟩ : ∃ r, sealO 1 x = r := ⟨_, rfl⟩
                have bs : 0 ≤ s ∧ s < 1000000007 := by rw [← hs]; exact ⟨sealO_lo _ _, sealO_hi _ _⟩
                have HR := Lib.hid hs
                rw [hs] at CS
                obtain ⟨ms, hms⟩ : ∃ r, prM 1 x ns = r := ⟨_, rfl⟩
                obtain ⟨cs, hcs⟩ : ∃ r, prC 1 x ns = r := ⟨_, rfl⟩
                obtain ⟨as_, has⟩ : ∃ r, prA 1 x ns = r := ⟨_, rfl⟩
                obtain ⟨k, hkk⟩ : ∃ r, slK ks j = r := ⟨_, rfl⟩
                obtain ⟨k', hkk'⟩ : ∃ r, slK ks (j + 1) = r := ⟨_, rfl⟩
                rw [hms, hcs, has] at CP PRV
                rw [hkk] at CK kb HV
                rw [hkk'] at CK
                have HK1 := Lib.hid hkk'
                have ew : IntKind.i64.wrap (k + x) = k + x := IntWalk.i64_in _ (by omega)
                have er : (k + x).tmod 500000003 = k' := by rw [Int.tmod_eq_emod_of_nonneg (by omega)]; exact CK.symm
                have z0 : -9223372036854775808 ≤ s := by omega
                have z1 : s ≤ 9223372036854775807 := by omega
                have qk : j ≤ 1099511627776 := by omega
                have PRH := Lib.hid PRV
                clear hs hms hcs has PRV RB q1 q2 q3 hp IK CK kb hkk hkk'
                go_wp2_with fail
                refine PRH.out.mono ?_
                rintro e w9 ⟨A1, c1, A2, c2, A3, c3, rfl, o1, o2, o3, ap, b9⟩
                have ba := bel_alloc w9 (.cells #[.slice A1 ms.length c1, .slice A2 cs.length c2, .slice A3 as_.length c3] 31)
                have nb : ∀ v ∈ [Value.slice A' j c'], ∀ q, v.ownBlock = some q → q < wr.heap.size := by intro v hv' q hq; rw [List.mem_singleton.1 hv'] at hq; exact HP.out.tops.1 q hq
                have Q0 := Lib.hid (show SQ (w.heap.size + 1) wr.heap.size w9.heap.size g w0 (w9.alloc (.cells #[.slice A1 ms.length c1, .slice A2 cs.length c2, .slice A3 as_.length c3] 31)) (.slice A' j c') (.int .i64 k) A' j c' (slS (j : Int) ks j) B j d hv (slP (j : Int) ks nss j) ms cs as_ A1 c1 A2 c2 A3 c3 from
                  ⟨(HV.out.below b9).below ba, (HP.out.below b9).below ba, Cs.new w9 [.slice A1 ms.length c1, .slice A2 cs.length c2, .slice A3 as_.length c3] _, o1.below ba, o2.below ba, o3.below ba, ap,
                    ⟨apart_new (base := 0) nb o1 _ (List.mem_singleton.2 rfl), apart_new (base := 0) nb o2 _ (List.mem_singleton.2 rfl), apart_new (base := 0) nb o3 _ (List.mem_singleton.2 rfl)⟩, HP.out.tops.2, bel_trans (bel_trans HL.out b9) ba⟩)
                have hAr := Lib.hid (HP.out.tops.1)
                have hA9 := Lib.hid (fun q hq => Nat.lt_of_lt_of_le (hAr.out q hq) b9.size)
                have hLr : w.heap.size + 1 ≤ wr.heap.size := by have := HL.out.size; omega
                have szq : wr.heap.size ≤ w9.heap.size := b9.size
                have hB9 := Lib.hid (fun q hq => Nat.lt_of_lt_of_le (HP.out.hd.lt q hq).2 b9.size)
                clear nb ba o1 o2 o3 ap
                go_wp2_with fail
                obtain ⟨wq, hwq⟩ : ∃ z, w9.alloc (.cells #[.slice A1 ms.length c1, .slice A2 cs.length c2, .slice A3 as_.length c3] 31) = z := ⟨_, rfl⟩
                have szw : wq.heap.size = w9.heap.size + 1 := by rw [← hwq]; simp
                rw [hwq] at Q0 ⊢
                obtain ⟨r, hr⟩ : ∃ r, w9.heap.size = r := ⟨_, rfl⟩
                rw [hr] at Q0 hA9 hB9 szq szw ⊢
                have SZ := Lib.hid szw
                clear hwq szw
                have hsz := Q0.out.bel.size
                refine wp_region_noPanic ?_
                refine wp_region_R (inFirst (fun w' => w'.cell? ⟨g, 0, none⟩ = some (.slice A' j c') ∧ w'.cell? ⟨g, 1, none⟩ = some (.slice B j d) ∧ w'.cell? ⟨r, 0, none⟩ = some (.slice A1 ms.length c1) ∧ w'.cell? ⟨r, 1, none⟩ = some (.slice A2 cs.length c2) ∧ w'.cell? ⟨r, 2, none⟩ = some (.slice A3 as_.length c3)) 13) (by kernel_rfl) ?_
                have hS0 : (wq.drew.cell? ⟨g, 0, none⟩ = some (.slice A' j c') ∧ wq.drew.cell? ⟨g, 1, none⟩ = some (.slice B j d) ∧ wq.drew.cell? ⟨r, 0, none⟩ = some (.slice A1 ms.length c1) ∧ wq.drew.cell? ⟨r, 1, none⟩ = some (.slice A2 cs.length c2) ∧ wq.drew.cell? ⟨r, 2, none⟩ = some (.slice A3 as_.length c3)) := Q0.out.reads
                refine anyR_take (i := 0) (.pointer (some ⟨g, 0, none⟩)) rfl (by kernel_rfl) (by kernel_rfl) (by kernel_rfl) (by kernel_rfl) (fun _ _ _ h => h) (by assumption) ⟨by rfl, ?_⟩ ?_
                · intro W hW
                  go_simp
                try simp only [Act.put, List.setIfInBounds_toArray, List.set_cons_zero, List.set_cons_succ]
                refine anyR_take (i := 2) (.int .i64 1) rfl (by kernel_rfl) (by kernel_rfl) (by kernel_rfl) (by kernel_rfl) (fun _ _ _ h => h) (by assumption) ⟨by rfl, ?_⟩ ?_
                · intro W hW
                  go_simp
                try simp only [Act.put, List.setIfInBounds_toArray, List.set_cons_zero, List.set_cons_succ]
                refine anyR_take (i := 3) (.int .i64 x) rfl (by kernel_rfl) (by kernel_rfl) (by kernel_rfl) (by kernel_rfl) (fun _ _ _ h => h) (by assumption) ⟨by rfl, ?_⟩ ?_
                · intro W hW
                  go_simp
                try simp only [Act.put, List.setIfInBounds_toArray, List.set_cons_zero, List.set_cons_succ]
                refine anyR_take (i := 7) (.pointer (some ⟨g, 1, none⟩)) rfl (by kernel_rfl) (by kernel_rfl) (by kernel_rfl) (by kernel_rfl) (fun _ _ _ h => h) (by assumption) ⟨by rfl, ?_⟩ ?_
                · intro W hW
                  go_simp
                try simp only [Act.put, List.setIfInBounds_toArray, List.set_cons_zero, List.set_cons_succ]
                refine anyR_take (i := 1) (.slice A' j c') rfl (by kernel_rfl) (by kernel_rfl) (by kernel_rfl) (by kernel_rfl) (fun _ _ _ h => h) (by assumption) ⟨by rfl, ?_⟩ ?_
                · intro W hW
                  go_simp
                try simp only [Act.put, List.setIfInBounds_toArray, List.set_cons_zero, List.set_cons_succ]
                refine anyR_take (i := 8) (.slice B j d) rfl (by kernel_rfl) (by kernel_rfl) (by kernel_rfl) (by kernel_rfl) (fun _ _ _ h => h) (by assumption) ⟨by rfl, ?_⟩ ?_
                · intro W hW
                  go_simp
                try simp only [Act.put, List.setIfInBounds_toArray, List.set_cons_zero, List.set_cons_succ]
                refine anyR_takeD (i := 9) [10, 11] (.agg #[.slice A1 ms.length c1, .slice A2 cs.length c2, .slice A3 as_.length c3]) rfl (by kernel_rfl) (by kernel_rfl) (by kernel_rfl) (by kernel_rfl) (by kernel_rfl) (fun _ _ _ h => h) (by assumption) ⟨by rfl, ?_⟩ ?_
                · intro W hW
                  go_simp
                try simp only [Act.put, List.setIfInBounds_toArray, List.set_cons_zero, List.set_cons_succ]
                refine anyR_two (i := 4) (j := 10) (by kernel_rfl) rfl rfl ?_ ?_
                · intro K hK
                  go_simp
                  go_at_call 55
                  refine (sealed_any 1 x _ (by omega) (by omega) (by omega) (by omega)).mono ?_
                  rintro e w' ⟨rfl, rfl⟩
                  rw [HR.out]
                  refine hK.out _ _ (fun _ => hS0) ?_
                  clear hK K
                  try simp only [Act.put, List.setIfInBounds_toArray, List.set_cons_zero, List.set_cons_succ]
                  refine anyR_two (i := 5) (j := 10) (by kernel_rfl) rfl rfl ?_ ?_
                  · intro K hK
                    have Qa := Lib.hid (Q0.out.below (bel_alloc wq (.cells #[.int .i64 s] 2)))
                    have Na := Lib.hid (cs_new (n := wq.heap.size) (w := wq) [.int .i64 s] 2 (by simp))
                    go_simp
                    refine hK.out _ _ (fun _ => Qa.out.reads) ?_
                    clear hK K
                    try simp only [Act.put, List.setIfInBounds_toArray, List.set_cons_zero, List.set_cons_succ]
                    refine anyR_two (i := 6) (j := 10) (by kernel_rfl) rfl rfl ?_ ?_
                    · intro K hK
                      have HOa := Lib.hid Qa.out.pb.own
                      have HCN := Lib.hid (Na.out.cell 0 rfl)
                      have hsa : w.heap.size + 1 ≤ (wq.alloc (.cells #[.int .i64 s] 2)).heap.size := by have := Qa.out.bel.size; omega
                      refine step_app_int _ (by rfl) _ _ (by rfl) (w.heap.size + 1) A' j c' _ (by rfl) HOa.out s z0 z1 wq.heap.size (by rfl) HCN.out qk hsa ?_
                      intro A7 c7 w7 p1 p2 p3
                      have Q7 := Lib.hid (Qa.out.drew.seal hA9.out (by omega) p1 p2 p3)
                      clear p1 p2 p3
                      refine hK.out _ _ (fun _ => Q7.out.reads) ?_
                      clear hK K
                      try simp only [Act.put, List.setIfInBounds_toArray, List.set_cons_zero, List.set_cons_succ]
                      have hS7 := Q7.out.reads
                      refine anyR_take (i := 12) (.pointer (some ⟨g, 0, none⟩)) rfl (by kernel_rfl) (by kernel_rfl) (by kernel_rfl) (by kernel_rfl) (fun _ _ _ h => h) (by assumption) ⟨by rfl, ?_⟩ ?_
                      · intro W hW
                        go_simp
                      try simp only [Act.put, List.setIfInBounds_toArray, List.set_cons_zero, List.set_cons_succ]
                      clear hS7
                      refine anyR_one (i := 10) (by kernel_rfl) rfl ?_
                      intro K hK
                      have Qb := Lib.hid (Q7.out.below (bel_alloc w7 (.cells #[.slice A1 ms.length c1, .slice A2 cs.length c2, .slice A3 as_.length c3] 31)))
                      have Mb := Lib.hid (cs_new (n := w7.heap.size) (w := w7) [.slice A1 ms.length c1, .slice A2 cs.length c2, .slice A3 as_.length c3] 31 (by simp))
                      go_simp
                      refine hK.out _ _ (fun _ => Qb.out.reads) ?_
                      clear hK K
                      try simp only [Act.put, List.setIfInBounds_toArray, List.set_cons_zero, List.set_cons_succ]
                      refine anyR_one (i := 11) (by kernel_rfl) rfl ?_
                      intro K hK
                      have HD := Lib.hid Qb.out.pb.hd
                      have M0 := Lib.hid (Mb.out.cell 0 rfl)
                      have M1 := Lib.hid (Mb.out.cell 1 rfl)
                      have M2 := Lib.hid (Mb.out.cell 2 rfl)
                      have szp : w.heap.size + 1 ≤ (w7.alloc (.cells #[.slice A1 ms.length c1, .slice A2 cs.length c2, .slice A3 as_.length c3] 31)).heap.size := by have := Qb.out.bel.size; omega
                      refine step_app_bp _ (by rfl) _ _ (by rfl) (w.heap.size + 1) B j d hv (by rfl) HD.out (.slice A1 ms.length c1) (.slice A2 cs.length c2) (.slice A3 as_.length c3) rfl rfl rfl w7.heap.size (by rfl) M0.out M1.out M2.out (by omega) szp ?_
                      intro B7 d7 w10 q1 q2
                      obtain ⟨PB1, BO1, BL1⟩ := Qb.out.proof hLr (by omega) q1 q2
                      have CR := Qb.out.cr.kept q2 (fun e => absurd (hB9.out _ e.symm) (Nat.lt_irrefl _))
                      have S11 := Lib.hid (show (w10.cell? ⟨g, 0, none⟩ = some (.slice A' j c') ∧ w10.cell? ⟨g, 1, none⟩ = some (.slice B j d) ∧ w10.cell? ⟨r, 0, none⟩ = some (.slice A1 ms.length c1) ∧ w10.cell? ⟨r, 1, none⟩ = some (.slice A2 cs.length c2) ∧ w10.cell? ⟨r, 2, none⟩ = some (.slice A3 as_.length c3)) from ⟨BO1.cells.1, BO1.cells.2.1, CR.cell 0 rfl, CR.cell 1 rfl, CR.cell 2 rfl⟩)
                      obtain ⟨BO2, G2⟩ := BO1.set0 (.slice A7 (j + 1) c7)
                      have PB2 := PB1.keep BO1 G2
                      obtain ⟨BO3, G3⟩ := BO2.set1 (.slice B7 (j + 1) d7)
                      have PB3 := Lib.hid (PB2.keep BO2 G3)
                      have BO3H := Lib.hid BO3
                      have BL3 := (BL1.setCell (p := ⟨g, 0, none⟩) hgw (.slice A7 (j + 1) c7)).setCell (p := ⟨g, 1, none⟩) hgw (.slice B7 (j + 1) d7)
                      have e0 := BO1.cells.1
                      have f0 := BO1.free 0
                      have e1' := BO2.cells.2.1
                      have f1 := BO2.free 1
                      clear q1 q2 PB1 BO1 BL1 CR BO2 G2 PB2 BO3 G3
                      refine hK.out _ _ (fun _ => S11.out) ?_
                      clear hK K
                      try simp only [Act.put, List.setIfInBounds_toArray, List.set_cons_zero, List.set_cons_succ]
                      refine anyR_one (i := 13) (by kernel_rfl) rfl ?_
                      intro K hK
                      go_simp
                      refine hK.out _ _ (fun h => absurd h (by decide)) ?_
                      clear hK K
                      try simp only [Act.put, List.setIfInBounds_toArray, List.set_cons_zero, List.set_cons_succ]
                      refine anyR_one (i := 14) (by kernel_rfl) rfl ?_
                      intro K hK
                      go_simp
                      refine hK.out _ _ (fun h => absurd h (by decide)) ?_
                      clear hK K
                      try simp only [Act.put, List.setIfInBounds_toArray, List.set_cons_zero, List.set_cons_succ]
                      refine anyR_one (i := 15) (by kernel_rfl) rfl ?_
                      intro K hK
                      go_simp
                      refine hK.out _ _ (fun h => absurd h (by decide)) ?_
                      clear hK K
                      try simp only [Act.put, List.setIfInBounds_toArray, List.set_cons_zero, List.set_cons_succ]
                      refine anyR_done (by kernel_rfl) ?_ _
                      refine NoPanic.normal ?_
                      obtain ⟨wz, hwz⟩ : ∃ z, (w10.setCell ⟨g, 0, none⟩ (.slice A7 (j + 1) c7)).setCell ⟨g, 1, none⟩ (.slice B7 (j + 1) d7) = z := ⟨_, rfl⟩
                      rw [hwz] at PB3 BO3H BL3 ⊢
                      clear hwz e0 f0 e1' f1 hS0
                      obtain ⟨BO4, G4⟩ := BO3H.out.set2 (.int .i64 k')
                      have PF := Lib.hid (PB3.out.keep BO3H.out G4)
                      have BF := Lib.hid BO4
                      have BLF := BL3.setCell (p := ⟨g, 2, none⟩) hgw (.int .i64 k')
                      have e2' := BO3H.out.cells.2.2
                      have f2 := BO3H.out.free 2
                      clear BO4 G4
                      go_wp2_with fail
                      go_roundw
                      case rel => exact ⟨j + 1, A7, c7, B7, d7, _, by omega, by go_num, by rw [HK1.out]; exact BF.out, by rw [CS.out, CP.out]; exact PF.out, BLF, NX.out⟩
                      case measure => simp [intOf]; omega
                    · intro K hK
                      have Qb := Lib.hid (Qa.out.below (bel_alloc (wq.alloc (.cells #[.int .i64 s] 2)) (.cells #[.slice A1 ms.length c1, .slice A2 cs.length c2, .slice A3 as_.length c3] 31)))
                      have Mb := Lib.hid (cs_new (n := (wq.heap.size + 1)) (w := (wq.alloc (.cells #[.int .i64 s] 2))) [.slice A1 ms.length c1, .slice A2 cs.length c2, .slice A3 as_.length c3] 31 (by simp))
                      go_simp
                      refine hK.out _ _ (fun _ => Qb.out.reads) ?_
                      clear hK K
                      try simp only [Act.put, List.setIfInBounds_toArray, List.set_cons_zero, List.set_cons_succ]
                      have Nb := Lib.hid (Na.out.below (bel_alloc (wq.alloc (.cells #[.int .i64 s] 2)) (.cells #[.slice A1 ms.length c1, .slice A2 cs.length c2, .slice A3 as_.length c3] 31)))
                      refine anyR_one (i := 6) (by kernel_rfl) rfl ?_
                      intro K hK
                      have HOa := Lib.hid Qb.out.pb.own
                      have HCN := Lib.hid (Nb.out.cell 0 rfl)
                      have hsa : w.heap.size + 1 ≤ ((wq.alloc (.cells #[.int .i64 s] 2)).alloc (.cells #[.slice A1 ms.length c1, .slice A2 cs.length c2, .slice A3 as_.length c3] 31)).heap.size := by have := Qb.out.bel.size; omega
                      refine step_app_int _ (by rfl) _ _ (by rfl) (w.heap.size + 1) A' j c' _ (by rfl) HOa.out s z0 z1 wq.heap.size (by rfl) HCN.out qk hsa ?_
                      intro A7 c7 w7 p1 p2 p3
                      have Q7 := Lib.hid (Qb.out.drew.seal hA9.out (by omega) p1 p2 p3)
                      have M7 := Lib.hid (Mb.out.drew.kept p2 (fun e => absurd (hA9.out _ e.symm) (by have := SZ.out; omega)))
                      clear p1 p2 p3
                      refine hK.out _ _ (fun _ => Q7.out.reads) ?_
                      clear hK K
                      try simp only [Act.put, List.setIfInBounds_toArray, List.set_cons_zero, List.set_cons_succ]
                      have hS7 := Q7.out.reads
                      refine anyR_take (i := 12) (.pointer (some ⟨g, 0, none⟩)) rfl (by kernel_rfl) (by kernel_rfl) (by kernel_rfl) (by kernel_rfl) (fun _ _ _ h => h) (by assumption) ⟨by rfl, ?_⟩ ?_
                      · intro W hW
                        go_simp
                      try simp only [Act.put, List.setIfInBounds_toArray, List.set_cons_zero, List.set_cons_succ]
                      clear hS7
                      refine anyR_one (i := 11) (by kernel_rfl) rfl ?_
                      intro K hK
                      have HD := Lib.hid Q7.out.pb.hd
                      have M0 := Lib.hid (M7.out.cell 0 rfl)
                      have M1 := Lib.hid (M7.out.cell 1 rfl)
                      have M2 := Lib.hid (M7.out.cell 2 rfl)
                      have szp : w.heap.size + 1 ≤ w7.heap.size := by have := Q7.out.bel.size; omega
                      refine step_app_bp _ (by rfl) _ _ (by rfl) (w.heap.size + 1) B j d hv (by rfl) HD.out (.slice A1 ms.length c1) (.slice A2 cs.length c2) (.slice A3 as_.length c3) rfl rfl rfl (wq.heap.size + 1) (by rfl) M0.out M1.out M2.out (by omega) szp ?_
                      intro B7 d7 w10 q1 q2
                      obtain ⟨PB1, BO1, BL1⟩ := Q7.out.proof hLr (by omega) q1 q2
                      have CR := Q7.out.cr.kept q2 (fun e => absurd (hB9.out _ e.symm) (Nat.lt_irrefl _))
                      have S11 := Lib.hid (show (w10.cell? ⟨g, 0, none⟩ = some (.slice A' j c') ∧ w10.cell? ⟨g, 1, none⟩ = some (.slice B j d) ∧ w10.cell? ⟨r, 0, none⟩ = some (.slice A1 ms.length c1) ∧ w10.cell? ⟨r, 1, none⟩ = some (.slice A2 cs.length c2) ∧ w10.cell? ⟨r, 2, none⟩ = some (.slice A3 as_.length c3)) from ⟨BO1.cells.1, BO1.cells.2.1, CR.cell 0 rfl, CR.cell 1 rfl, CR.cell 2 rfl⟩)
                      obtain ⟨BO2, G2⟩ := BO1.set0 (.slice A7 (j + 1) c7)
                      have PB2 := PB1.keep BO1 G2
                      obtain ⟨BO3, G3⟩ := BO2.set1 (.slice B7 (j + 1) d7)
                      have PB3 := Lib.hid (PB2.keep BO2 G3)
                      have BO3H := Lib.hid BO3
                      have BL3 := (BL1.setCell (p := ⟨g, 0, none⟩) hgw (.slice A7 (j + 1) c7)).setCell (p := ⟨g, 1, none⟩) hgw (.slice B7 (j + 1) d7)
                      have e0 := BO1.cells.1
                      have f0 := BO1.free 0
                      have e1' := BO2.cells.2.1
                      have f1 := BO2.free 1
                      clear q1 q2 PB1 BO1 BL1 CR BO2 G2 PB2 BO3 G3
                      refine hK.out _ _ (fun _ => S11.out) ?_
                      clear hK K
                      try simp only [Act.put, List.setIfInBounds_toArray, List.set_cons_zero, List.set_cons_succ]
                      refine anyR_one (i := 13) (by kernel_rfl) rfl ?_
                      intro K hK
                      go_simp
                      refine hK.out _ _ (fun h => absurd h (by decide)) ?_
                      clear hK K
                      try simp only [Act.put, List.setIfInBounds_toArray, List.set_cons_zero, List.set_cons_succ]
                      refine anyR_one (i := 14) (by kernel_rfl) rfl ?_
                      intro K hK
                      go_simp
                      refine hK.out _ _ (fun h => absurd h (by decide)) ?_
                      clear hK K
                      try simp only [Act.put, List.setIfInBounds_toArray, List.set_cons_zero, List.set_cons_succ]
                      refine anyR_one (i := 15) (by kernel_rfl) rfl ?_
                      intro K hK
                      go_simp
                      refine hK.out _ _ (fun h => absurd h (by decide)) ?_
                      clear hK K
                      try simp only [Act.put, List.setIfInBounds_toArray, List.set_cons_zero, List.set_cons_succ]
                      refine anyR_done (by kernel_rfl) ?_ _
                      refine NoPanic.normal ?_
                      obtain ⟨wz, hwz⟩ : ∃ z, (w10.setCell ⟨g, 0, none⟩ (.slice A7 (j + 1) c7)).setCell ⟨g, 1, none⟩ (.slice B7 (j + 1) d7) = z := ⟨_, rfl⟩
                      rw [hwz] at PB3 BO3H BL3 ⊢
                      clear hwz e0 f0 e1' f1 hS0
                      obtain ⟨BO4, G4⟩ := BO3H.out.set2 (.int .i64 k')
                      have PF := Lib.hid (PB3.out.keep BO3H.out G4)
                      have BF := Lib.hid BO4
                      have BLF := BL3.setCell (p := ⟨g, 2, none⟩) hgw (.int .i64 k')
                      have e2' := BO3H.out.cells.2.2
                      have f2 := BO3H.out.free 2
                      clear BO4 G4
                      go_wp2_with fail
                      go_roundw
                      case rel => exact ⟨j + 1, A7, c7, B7, d7, _, by omega, by go_num, by rw [HK1.out]; exact BF.out, by rw [CS.out, CP.out]; exact PF.out, BLF, NX.out⟩
                      case measure => simp [intOf]; omega
                  · intro K hK
                    have Qa := Lib.hid (Q0.out.below (bel_alloc wq (.cells #[.slice A1 ms.length c1, .slice A2 cs.length c2, .slice A3 as_.length c3] 31)))
                    have Ma := Lib.hid (cs_new (n := wq.heap.size) (w := wq) [.slice A1 ms.length c1, .slice A2 cs.length c2, .slice A3 as_.length c3] 31 (by simp))
                    go_simp
                    refine hK.out _ _ (fun _ => Qa.out.reads) ?_
                    clear hK K
                    try simp only [Act.put, List.setIfInBounds_toArray, List.set_cons_zero, List.set_cons_succ]
                    refine anyR_one (i := 5) (by kernel_rfl) rfl ?_
                    intro K hK
                    have Qb := Lib.hid (Qa.out.below (bel_alloc (wq.alloc (.cells #[.slice A1 ms.length c1, .slice A2 cs.length c2, .slice A3 as_.length c3] 31)) (.cells #[.int .i64 s] 2)))
                    have Nb := Lib.hid (cs_new (n := (wq.heap.size + 1)) (w := (wq.alloc (.cells #[.slice A1 ms.length c1, .slice A2 cs.length c2, .slice A3 as_.length c3] 31))) [.int .i64 s] 2 (by simp))
                    go_simp
                    refine hK.out _ _ (fun _ => Qb.out.reads) ?_
                    clear hK K
                    try simp only [Act.put, List.setIfInBounds_toArray, List.set_cons_zero, List.set_cons_succ]
                    have Mb := Lib.hid (Ma.out.below (bel_alloc (wq.alloc (.cells #[.slice A1 ms.length c1, .slice A2 cs.length c2, .slice A3 as_.length c3] 31)) (.cells #[.int .i64 s] 2)))
                    refine anyR_one (i := 6) (by kernel_rfl) rfl ?_
                    intro K hK
                    have HOa := Lib.hid Qb.out.pb.own
                    have HCN := Lib.hid (Nb.out.cell 0 rfl)
                    have hsa : w.heap.size + 1 ≤ ((wq.alloc (.cells #[.slice A1 ms.length c1, .slice A2 cs.length c2, .slice A3 as_.length c3] 31)).alloc (.cells #[.int .i64 s] 2)).heap.size := by have := Qb.out.bel.size; omega
                    refine step_app_int _ (by rfl) _ _ (by rfl) (w.heap.size + 1) A' j c' _ (by rfl) HOa.out s z0 z1 (wq.heap.size + 1) (by rfl) HCN.out qk hsa ?_
                    intro A7 c7 w7 p1 p2 p3
                    have Q7 := Lib.hid (Qb.out.drew.seal hA9.out (by omega) p1 p2 p3)
                    have M7 := Lib.hid (Mb.out.drew.kept p2 (fun e => absurd (hA9.out _ e.symm) (by have := SZ.out; omega)))
                    clear p1 p2 p3
                    refine hK.out _ _ (fun _ => Q7.out.reads) ?_
                    clear hK K
                    try simp only [Act.put, List.setIfInBounds_toArray, List.set_cons_zero, List.set_cons_succ]
                    have hS7 := Q7.out.reads
                    refine anyR_take (i := 12) (.pointer (some ⟨g, 0, none⟩)) rfl (by kernel_rfl) (by kernel_rfl) (by kernel_rfl) (by kernel_rfl) (fun _ _ _ h => h) (by assumption) ⟨by rfl, ?_⟩ ?_
                    · intro W hW
                      go_simp
                    try simp only [Act.put, List.setIfInBounds_toArray, List.set_cons_zero, List.set_cons_succ]
                    clear hS7
                    refine anyR_one (i := 11) (by kernel_rfl) rfl ?_
                    intro K hK
                    have HD := Lib.hid Q7.out.pb.hd
                    have M0 := Lib.hid (M7.out.cell 0 rfl)
                    have M1 := Lib.hid (M7.out.cell 1 rfl)
                    have M2 := Lib.hid (M7.out.cell 2 rfl)
                    have szp : w.heap.size + 1 ≤ w7.heap.size := by have := Q7.out.bel.size; omega
                    refine step_app_bp _ (by rfl) _ _ (by rfl) (w.heap.size + 1) B j d hv (by rfl) HD.out (.slice A1 ms.length c1) (.slice A2 cs.length c2) (.slice A3 as_.length c3) rfl rfl rfl wq.heap.size (by rfl) M0.out M1.out M2.out (by omega) szp ?_
                    intro B7 d7 w10 q1 q2
                    obtain ⟨PB1, BO1, BL1⟩ := Q7.out.proof hLr (by omega) q1 q2
                    have CR := Q7.out.cr.kept q2 (fun e => absurd (hB9.out _ e.symm) (Nat.lt_irrefl _))
                    have S11 := Lib.hid (show (w10.cell? ⟨g, 0, none⟩ = some (.slice A' j c') ∧ w10.cell? ⟨g, 1, none⟩ = some (.slice B j d) ∧ w10.cell? ⟨r, 0, none⟩ = some (.slice A1 ms.length c1) ∧ w10.cell? ⟨r, 1, none⟩ = some (.slice A2 cs.length c2) ∧ w10.cell? ⟨r, 2, none⟩ = some (.slice A3 as_.length c3)) from ⟨BO1.cells.1, BO1.cells.2.1, CR.cell 0 rfl, CR.cell 1 rfl, CR.cell 2 rfl⟩)
                    obtain ⟨BO2, G2⟩ := BO1.set0 (.slice A7 (j + 1) c7)
                    have PB2 := PB1.keep BO1 G2
                    obtain ⟨BO3, G3⟩ := BO2.set1 (.slice B7 (j + 1) d7)
                    have PB3 := Lib.hid (PB2.keep BO2 G3)
                    have BO3H := Lib.hid BO3
                    have BL3 := (BL1.setCell (p := ⟨g, 0, none⟩) hgw (.slice A7 (j + 1) c7)).setCell (p := ⟨g, 1, none⟩) hgw (.slice B7 (j + 1) d7)
                    have e0 := BO1.cells.1
                    have f0 := BO1.free 0
                    have e1' := BO2.cells.2.1
                    have f1 := BO2.free 1
                    clear q1 q2 PB1 BO1 BL1 CR BO2 G2 PB2 BO3 G3
                    refine hK.out _ _ (fun _ => S11.out) ?_
                    clear hK K
                    try simp only [Act.put, List.setIfInBounds_toArray, List.set_cons_zero, List.set_cons_succ]
                    refine anyR_one (i := 13) (by kernel_rfl) rfl ?_
                    intro K hK
                    go_simp
                    refine hK.out _ _ (fun h => absurd h (by decide)) ?_
                    clear hK K
                    try simp only [Act.put, List.setIfInBounds_toArray, List.set_cons_zero, List.set_cons_succ]
                    refine anyR_one (i := 14) (by kernel_rfl) rfl ?_
                    intro K hK
                    go_simp
                    refine hK.out _ _ (fun h => absurd h (by decide)) ?_
                    clear hK K
                    try simp only [Act.put, List.setIfInBounds_toArray, List.set_cons_zero, List.set_cons_succ]
                    refine anyR_one (i := 15) (by kernel_rfl) rfl ?_
                    intro K hK
                    go_simp
                    refine hK.out _ _ (fun h => absurd h (by decide)) ?_
                    clear hK K
                    try simp only [Act.put, List.setIfInBounds_toArray, List.set_cons_zero, List.set_cons_succ]
                    refine anyR_done (by kernel_rfl) ?_ _
                    refine NoPanic.normal ?_
                    obtain ⟨wz, hwz⟩ : ∃ z, (w10.setCell ⟨g, 0, none⟩ (.slice A7 (j + 1) c7)).setCell ⟨g, 1, none⟩ (.slice B7 (j + 1) d7) = z := ⟨_, rfl⟩
                    rw [hwz] at PB3 BO3H BL3 ⊢
                    clear hwz e0 f0 e1' f1 hS0
                    obtain ⟨BO4, G4⟩ := BO3H.out.set2 (.int .i64 k')
                    have PF := Lib.hid (PB3.out.keep BO3H.out G4)
                    have BF := Lib.hid BO4
                    have BLF := BL3.setCell (p := ⟨g, 2, none⟩) hgw (.int .i64 k')
                    have e2' := BO3H.out.cells.2.2
                    have f2 := BO3H.out.free 2
                    clear BO4 G4
                    go_wp2_with fail
                    go_roundw
                    case rel => exact ⟨j + 1, A7, c7, B7, d7, _, by omega, by go_num, by rw [HK1.out]; exact BF.out, by rw [CS.out, CP.out]; exact PF.out, BLF, NX.out⟩
                    case measure => simp [intOf]; omega
                · intro K hK
                  have Qa := Lib.hid (Q0.out.below (bel_alloc wq (.cells #[.slice A1 ms.length c1, .slice A2 cs.length c2, .slice A3 as_.length c3] 31)))
                  have Ma := Lib.hid (cs_new (n := wq.heap.size) (w := wq) [.slice A1 ms.length c1, .slice A2 cs.length c2, .slice A3 as_.length c3] 31 (by simp))
                  go_simp
                  refine hK.out _ _ (fun _ => Qa.out.reads) ?_
                  clear hK K
                  try simp only [Act.put, List.setIfInBounds_toArray, List.set_cons_zero, List.set_cons_succ]
                  have hS1 := Qa.out.drew.reads
                  refine anyR_one (i := 4) (by kernel_rfl) rfl ?_
                  intro K hK
                  go_simp
                  go_at_call 55
                  refine (sealed_any 1 x _ (by omega) (by omega) (by omega) (by omega)).mono ?_
                  rintro e w' ⟨rfl, rfl⟩
                  rw [HR.out]
                  refine hK.out _ _ (fun _ => Qa.out.reads) ?_
                  clear hK K
                  try simp only [Act.put, List.setIfInBounds_toArray, List.set_cons_zero, List.set_cons_succ]
                  refine anyR_one (i := 5) (by kernel_rfl) rfl ?_
                  intro K hK
                  have Qb := Lib.hid (Qa.out.below (bel_alloc (wq.alloc (.cells #[.slice A1 ms.length c1, .slice A2 cs.length c2, .slice A3 as_.length c3] 31)) (.cells #[.int .i64 s] 2)))
                  have Nb := Lib.hid (cs_new (n := (wq.heap.size + 1)) (w := (wq.alloc (.cells #[.slice A1 ms.length c1, .slice A2 cs.length c2, .slice A3 as_.length c3] 31))) [.int .i64 s] 2 (by simp))
                  go_simp
                  refine hK.out _ _ (fun _ => Qb.out.reads) ?_
                  clear hK K
                  try simp only [Act.put, List.setIfInBounds_toArray, List.set_cons_zero, List.set_cons_succ]
                  have Mb := Lib.hid (Ma.out.below (bel_alloc (wq.alloc (.cells #[.slice A1 ms.length c1, .slice A2 cs.length c2, .slice A3 as_.length c3] 31)) (.cells #[.int .i64 s] 2)))
                  refine anyR_one (i := 6) (by kernel_rfl) rfl ?_
                  intro K hK
                  have HOa := Lib.hid Qb.out.pb.own
                  have HCN := Lib.hid (Nb.out.cell 0 rfl)
                  have hsa : w.heap.size + 1 ≤ ((wq.alloc (.cells #[.slice A1 ms.length c1, .slice A2 cs.length c2, .slice A3 as_.length c3] 31)).alloc (.cells #[.int .i64 s] 2)).heap.size := by have := Qb.out.bel.size; omega
                  refine step_app_int _ (by rfl) _ _ (by rfl) (w.heap.size + 1) A' j c' _ (by rfl) HOa.out s z0 z1 (wq.heap.size + 1) (by rfl) HCN.out qk hsa ?_
                  intro A7 c7 w7 p1 p2 p3
                  have Q7 := Lib.hid (Qb.out.drew.seal hA9.out (by omega) p1 p2 p3)
                  have M7 := Lib.hid (Mb.out.drew.kept p2 (fun e => absurd (hA9.out _ e.symm) (by have := SZ.out; omega)))
                  clear p1 p2 p3
                  refine hK.out _ _ (fun _ => Q7.out.reads) ?_
                  clear hK K
                  try simp only [Act.put, List.setIfInBounds_toArray, List.set_cons_zero, List.set_cons_succ]
                  have hS7 := Q7.out.reads
                  refine anyR_take (i := 12) (.pointer (some ⟨g, 0, none⟩)) rfl (by kernel_rfl) (by kernel_rfl) (by kernel_rfl) (by kernel_rfl) (fun _ _ _ h => h) (by assumption) ⟨by rfl, ?_⟩ ?_
                  · intro W hW
                    go_simp
                  try simp only [Act.put, List.setIfInBounds_toArray, List.set_cons_zero, List.set_cons_succ]
                  clear hS7
                  refine anyR_one (i := 11) (by kernel_rfl) rfl ?_
                  intro K hK
                  have HD := Lib.hid Q7.out.pb.hd
                  have M0 := Lib.hid (M7.out.cell 0 rfl)
                  have M1 := Lib.hid (M7.out.cell 1 rfl)
                  have M2 := Lib.hid (M7.out.cell 2 rfl)
                  have szp : w.heap.size + 1 ≤ w7.heap.size := by have := Q7.out.bel.size; omega
                  refine step_app_bp _ (by rfl) _ _ (by rfl) (w.heap.size + 1) B j d hv (by rfl) HD.out (.slice A1 ms.length c1) (.slice A2 cs.length c2) (.slice A3 as_.length c3) rfl rfl rfl wq.heap.size (by rfl) M0.out M1.out M2.out (by omega) szp ?_
                  intro B7 d7 w10 q1 q2
                  obtain ⟨PB1, BO1, BL1⟩ := Q7.out.proof hLr (by omega) q1 q2
                  have CR := Q7.out.cr.kept q2 (fun e => absurd (hB9.out _ e.symm) (Nat.lt_irrefl _))
                  have S11 := Lib.hid (show (w10.cell? ⟨g, 0, none⟩ = some (.slice A' j c') ∧ w10.cell? ⟨g, 1, none⟩ = some (.slice B j d) ∧ w10.cell? ⟨r, 0, none⟩ = some (.slice A1 ms.length c1) ∧ w10.cell? ⟨r, 1, none⟩ = some (.slice A2 cs.length c2) ∧ w10.cell? ⟨r, 2, none⟩ = some (.slice A3 as_.length c3)) from ⟨BO1.cells.1, BO1.cells.2.1, CR.cell 0 rfl, CR.cell 1 rfl, CR.cell 2 rfl⟩)
                  obtain ⟨BO2, G2⟩ := BO1.set0 (.slice A7 (j + 1) c7)
                  have PB2 := PB1.keep BO1 G2
                  obtain ⟨BO3, G3⟩ := BO2.set1 (.slice B7 (j + 1) d7)
                  have PB3 := Lib.hid (PB2.keep BO2 G3)
                  have BO3H := Lib.hid BO3
                  have BL3 := (BL1.setCell (p := ⟨g, 0, none⟩) hgw (.slice A7 (j + 1) c7)).setCell (p := ⟨g, 1, none⟩) hgw (.slice B7 (j + 1) d7)
                  have e0 := BO1.cells.1
                  have f0 := BO1.free 0
                  have e1' := BO2.cells.2.1
                  have f1 := BO2.free 1
                  clear q1 q2 PB1 BO1 BL1 CR BO2 G2 PB2 BO3 G3
                  refine hK.out _ _ (fun _ => S11.out) ?_
                  clear hK K
                  try simp only [Act.put, List.setIfInBounds_toArray, List.set_cons_zero, List.set_cons_succ]
                  refine anyR_one (i := 13) (by kernel_rfl) rfl ?_
                  intro K hK
                  go_simp
                  refine hK.out _ _ (fun h => absurd h (by decide)) ?_
                  clear hK K
                  try simp only [Act.put, List.setIfInBounds_toArray, List.set_cons_zero, List.set_cons_succ]
                  refine anyR_one (i := 14) (by kernel_rfl) rfl ?_
                  intro K hK
                  go_simp
                  refine hK.out _ _ (fun h => absurd h (by decide)) ?_
                  clear hK K
                  try simp only [Act.put, List.setIfInBounds_toArray, List.set_cons_zero, List.set_cons_succ]
                  refine anyR_one (i := 15) (by kernel_rfl) rfl ?_
                  intro K hK
                  go_simp
                  refine hK.out _ _ (fun h => absurd h (by decide)) ?_
                  clear hK K
                  try simp only [Act.put, List.setIfInBounds_toArray, List.set_cons_zero, List.set_cons_succ]
                  refine anyR_done (by kernel_rfl) ?_ _
                  refine NoPanic.normal ?_
                  obtain ⟨wz, hwz⟩ : ∃ z, (w10.setCell ⟨g, 0, none⟩ (.slice A7 (j + 1) c7)).setCell ⟨g, 1, none⟩ (.slice B7 (j + 1) d7) = z := ⟨_, rfl⟩
                  rw [hwz] at PB3 BO3H BL3 ⊢
                  clear hwz e0 f0 e1' f1 hS0
                  obtain ⟨BO4, G4⟩ := BO3H.out.set2 (.int .i64 k')
                  have PF := Lib.hid (PB3.out.keep BO3H.out G4)
                  have BF := Lib.hid BO4
                  have BLF := BL3.setCell (p := ⟨g, 2, none⟩) hgw (.int .i64 k')
                  have e2' := BO3H.out.cells.2.2
                  have f2 := BO3H.out.free 2
                  clear BO4 G4
                  go_wp2_with fail
                  go_roundw
                  case rel => exact ⟨j + 1, A7, c7, B7, d7, _, by omega, by go_num, by rw [HK1.out]; exact BF.out, by rw [CS.out, CP.out]; exact PF.out, BLF, NX.out⟩
                  case measure => simp [intOf]; omega
            · have EB := Lib.hid (show bitOf vote j = 0 by simp [bitOf, hbit])
              have hbn : ((j : Int) == vote) = false := by simpa using hbit
              cases hp : allB ns 3 expB
              · have R : Hid (slB vote ks nss = false) := by show _ = _; rw [ER.out]; exact all_stop (p := fun l => allB l 3 expB) hns.out hp
                have PRV := proveBit_any 0 x Ak mk e1 ns wr IK.out
                have RB : prB 0 x ns = false := by simp [prB, hp]
                obtain ⟨q1, q2, q3⟩ := pr_no RB
                rw [q1, q2, q3, RB] at PRV
                have PRH := Lib.hid PRV
                have C0w := Lib.hid (RR.out.below HL.out)
                clear PRV RB q1 q2 q3 hp IK
                go_wp2_with fail
                refine PRH.out.mono ?_
                rintro e w9 ⟨A1, c1, A2, c2, A3, c3, rfl, o1, o2, o3, ap, b9⟩
                have D1 := (C0w.out.below b9).below (bel_alloc w9 (.cells #[.slice A1 0 c1, .slice A2 0 c2, .slice A3 0 c3] 31))
                have q0a := D1.cell 0 rfl
                have q1a := D1.cell 1 rfl
                have q2a := D1.cell 2 rfl
                have f0a := D1.free 0 rfl
                have f1a := D1.free 1 rfl
                have f2a := D1.free 2 rfl
                have lta := D1.1
                go_wp2_with fail
                obtain ⟨wz, hwz, hbl, d0, d1, d2⟩ := zeroSB D1 (bel_trans (bel_trans (bel_trans x0 HL.out) b9) (bel_alloc w9 (.cells #[.slice A1 0 c1, .slice A2 0 c2, .slice A3 0 c3] 31)))
                rw [hwz]
                exact bodyPost_ret (v := .tuple #[.agg #[.slice none 0 0, .slice none 0 0, .int .i64 0], .bool false]) (by simp [results, Try.results27, go_sem, d0, d1, d2]) rfl (givesSB_bad R.out hbl)
              · have CS := Lib.hid (show slS vote ks (j + 1) = slS vote ks j ++ [sealO 0 x] by rw [slS_succ vote ks hx.out, EB.out])
                have CP := Lib.hid (show slP vote ks nss (j + 1) = slP vote ks nss j ++ [⟨prM 0 x ns, prC 0 x ns, prA 0 x ns⟩] by rw [slP_succ vote ks nss hx.out hns.out, EB.out])
                have CK := slK_succ ks hx.out
                have kb := slK_bd ks j
                have PRV := proveBit_any 0 x Ak mk e1 ns wr IK.out
                have RB : prB 0 x ns = true := by simp [prB, hp, KS.out x (mem_of_at hx.out)]; decide
                obtain ⟨q1, q2, q3⟩ := pr_yes RB
                rw [q1, q2, q3, RB] at PRV
                have NX := Lib.hid (all_next (p := fun l => allB l 3 expB) hns.out HA.out hp)
                obtain ⟨s, hs⟩ : ∃ r, sealO 0 x = r := ⟨_, rfl⟩
                have bs : 0 ≤ s ∧ s < 1000000007 := by rw [← hs]; exact ⟨sealO_lo _ _, sealO_hi _ _⟩
                have HR := Lib.hid hs
                rw [hs] at CS
                obtain ⟨ms, hms⟩ : ∃ r, prM 0 x ns = r := ⟨_, rfl⟩
                obtain ⟨cs, hcs⟩ : ∃ r, prC 0 x ns = r := ⟨_, rfl⟩
                obtain ⟨as_, has⟩ : ∃ r, prA 0 x ns = r := ⟨_, rfl⟩
                obtain ⟨k, hkk⟩ : ∃ r, slK ks j = r := ⟨_, rfl⟩
                obtain ⟨k', hkk'⟩ : ∃ r, slK ks (j + 1) = r := ⟨_, rfl⟩
                rw [hms, hcs, has] at CP PRV
                rw [hkk] at CK kb HV
                rw [hkk'] at CK
                have HK1 := Lib.hid hkk'
                have ew : IntKind.i64.wrap (k + x) = k + x := IntWalk.i64_in _ (by omega)
                have er : (k + x).tmod 500000003 = k' := by rw [Int.tmod_eq_emod_of_nonneg (by omega)]; exact CK.symm
                have z0 : -9223372036854775808 ≤ s := by omega
                have z1 : s ≤ 9223372036854775807 := by omega
                have qk : j ≤ 1099511627776 := by omega
                have PRH := Lib.hid PRV
                clear hs hms hcs has PRV RB q1 q2 q3 hp IK CK kb hkk hkk'
                go_wp2_with fail
                refine PRH.out.mono ?_
                rintro e w9 ⟨A1, c1, A2, c2, A3, c3, rfl, o1, o2, o3, ap, b9⟩
                have ba := bel_alloc w9 (.cells #[.slice A1 ms.length c1, .slice A2 cs.length c2, .slice A3 as_.length c3] 31)
                have nb : ∀ v ∈ [Value.slice A' j c'], ∀ q, v.ownBlock = some q → q < wr.heap.size := by intro v hv' q hq; rw [List.mem_singleton.1 hv'] at hq; exact HP.out.tops.1 q hq
                have Q0 := Lib.hid (show SQ (w.heap.size + 1) wr.heap.size w9.heap.size g w0 (w9.alloc (.cells #[.slice A1 ms.length c1, .slice A2 cs.length c2, .slice A3 as_.length c3] 31)) (.slice A' j c') (.int .i64 k) A' j c' (slS vote ks j) B j d hv (slP vote ks nss j) ms cs as_ A1 c1 A2 c2 A3 c3 from
                  ⟨(HV.out.below b9).below ba, (HP.out.below b9).below ba, Cs.new w9 [.slice A1 ms.length c1, .slice A2 cs.length c2, .slice A3 as_.length c3] _, o1.below ba, o2.below ba, o3.below ba, ap,
                    ⟨apart_new (base := 0) nb o1 _ (List.mem_singleton.2 rfl), apart_new (base := 0) nb o2 _ (List.mem_singleton.2 rfl), apart_new (base := 0) nb o3 _ (List.mem_singleton.2 rfl)⟩, HP.out.tops.2, bel_trans (bel_trans HL.out b9) ba⟩)
                have hAr := Lib.hid (HP.out.tops.1)
                have hA9 := Lib.hid (fun q hq => Nat.lt_of_lt_of_le (hAr.out q hq) b9.size)
                have hLr : w.heap.size + 1 ≤ wr.heap.size := by have := HL.out.size; omega
                have szq : wr.heap.size ≤ w9.heap.size := b9.size
                have hB9 := Lib.hid (fun q hq => Nat.lt_of_lt_of_le (HP.out.hd.lt q hq).2 b9.size)
                clear nb ba o1 o2 o3 ap
                go_wp2_with fail
                obtain ⟨wq, hwq⟩ : ∃ z, w9.alloc (.cells #[.slice A1 ms.length c1, .slice A2 cs.length c2, .slice A3 as_.length c3] 31) = z := ⟨_, rfl⟩
                have szw : wq.heap.size = w9.heap.size + 1 := by rw [← hwq]; simp
                rw [hwq] at Q0 ⊢
                obtain ⟨r, hr⟩ : ∃ r, w9.heap.size = r := ⟨_, rfl⟩
                rw [hr] at Q0 hA9 hB9 szq szw ⊢
                have SZ := Lib.hid szw
                clear hwq szw
                have hsz := Q0.out.bel.size
                refine wp_region_noPanic ?_
                refine wp_region_R (inFirst (fun w' => w'.cell? ⟨g, 0, none⟩ = some (.slice A' j c') ∧ w'.cell? ⟨g, 1, none⟩ = some (.slice B j d) ∧ w'.cell? ⟨r, 0, none⟩ = some (.slice A1 ms.length c1) ∧ w'.cell? ⟨r, 1, none⟩ = some (.slice A2 cs.length c2) ∧ w'.cell? ⟨r, 2, none⟩ = some (.slice A3 as_.length c3)) 13) (by kernel_rfl) ?_
                have hS0 : (wq.drew.cell? ⟨g, 0, none⟩ = some (.slice A' j c') ∧ wq.drew.cell? ⟨g, 1, none⟩ = some (.slice B j d) ∧ wq.drew.cell? ⟨r, 0, none⟩ = some (.slice A1 ms.length c1) ∧ wq.drew.cell? ⟨r, 1, none⟩ = some (.slice A2 cs.length c2) ∧ wq.drew.cell? ⟨r, 2, none⟩ = some (.slice A3 as_.length c3)) := Q0.out.reads
                refine anyR_take (i := 0) (.pointer (some ⟨g, 0, none⟩)) rfl (by kernel_rfl) (by kernel_rfl) (by kernel_rfl) (by kernel_rfl) (fun _ _ _ h => h) (by assumption) ⟨by rfl, ?_⟩ ?_
                · intro W hW
                  go_simp
                try simp only [Act.put, List.setIfInBounds_toArray, List.set_cons_zero, List.set_cons_succ]
                refine anyR_take (i := 2) (.int .i64 0) rfl (by kernel_rfl) (by kernel_rfl) (by kernel_rfl) (by kernel_rfl) (fun _ _ _ h => h) (by assumption) ⟨by rfl, ?_⟩ ?_
                · intro W hW
                  go_simp
                try simp only [Act.put, List.setIfInBounds_toArray, List.set_cons_zero, List.set_cons_succ]
                refine anyR_take (i := 3) (.int .i64 x) rfl (by kernel_rfl) (by kernel_rfl) (by kernel_rfl) (by kernel_rfl) (fun _ _ _ h => h) (by assumption) ⟨by rfl, ?_⟩ ?_
                · intro W hW
                  go_simp
                try simp only [Act.put, List.setIfInBounds_toArray, List.set_cons_zero, List.set_cons_succ]
                refine anyR_take (i := 7) (.pointer (some ⟨g, 1, none⟩)) rfl (by kernel_rfl) (by kernel_rfl) (by kernel_rfl) (by kernel_rfl) (fun _ _ _ h => h) (by assumption) ⟨by rfl, ?_⟩ ?_
                · intro W hW
                  go_simp
                try simp only [Act.put, List.setIfInBounds_toArray, List.set_cons_zero, List.set_cons_succ]
                refine anyR_take (i := 1) (.slice A' j c') rfl (by kernel_rfl) (by kernel_rfl) (by kernel_rfl) (by kernel_rfl) (fun _ _ _ h => h) (by assumption) ⟨by rfl, ?_⟩ ?_
                · intro W hW
                  go_simp
                try simp only [Act.put, List.setIfInBounds_toArray, List.set_cons_zero, List.set_cons_succ]
                refine anyR_take (i := 8) (.slice B j d) rfl (by kernel_rfl) (by kernel_rfl) (by kernel_rfl) (by kernel_rfl) (fun _ _ _ h => h) (by assumption) ⟨by rfl, ?_⟩ ?_
                · intro W hW
                  go_simp
                try simp only [Act.put, List.setIfInBounds_toArray, List.set_cons_zero, List.set_cons_succ]
                refine anyR_takeD (i := 9) [10, 11] (.agg #[.slice A1 ms.length c1, .slice A2 cs.length c2, .slice A3 as_.length c3]) rfl (by kernel_rfl) (by kernel_rfl) (by kernel_rfl) (by kernel_rfl) (by kernel_rfl) (fun _ _ _ h => h) (by assumption) ⟨by rfl, ?_⟩ ?_
                · intro W hW
                  go_simp
                try simp only [Act.put, List.setIfInBounds_toArray, List.set_cons_zero, List.set_cons_succ]
                refine anyR_two (i := 4) (j := 10) (by kernel_rfl) rfl rfl ?_ ?_
                · intro K hK
                  go_simp
                  go_at_call 55
                  refine (sealed_any 0 x _ (by omega) (by omega) (by omega) (by omega)).mono ?_
                  rintro e w' ⟨rfl, rfl⟩
                  rw [HR.out]
                  refine hK.out _ _ (fun _ => hS0) ?_
                  clear hK K
                  try simp only [Act.put, List.setIfInBounds_toArray, List.set_cons_zero, List.set_cons_succ]
                  refine anyR_two (i := 5) (j := 10) (by kernel_rfl) rfl rfl ?_ ?_
                  · intro K hK
                    have Qa := Lib.hid (Q0.out.below (bel_alloc wq (.cells #[.int .i64 s] 2)))
                    have Na := Lib.hid (cs_new (n := wq.heap.size) (w := wq) [.int .i64 s] 2 (by simp))
                    go_simp
                    refine hK.out _ _ (fun _ => Qa.out.reads) ?_
                    clear hK K
                    try simp only [Act.put, List.setIfInBounds_toArray, List.set_cons_zero, List.set_cons_succ]
                    refine anyR_two (i := 6) (j := 10) (by kernel_rfl) rfl rfl ?_ ?_
                    · intro K hK
                      have HOa := Lib.hid Qa.out.pb.own
                      have HCN := Lib.hid (Na.out.cell 0 rfl)
                      have hsa : w.heap.size + 1 ≤ (wq.alloc (.cells #[.int .i64 s] 2)).heap.size := by have := Qa.out.bel.size; omega
                      refine step_app_int _ (by rfl) _ _ (by rfl) (w.heap.size + 1) A' j c' _ (by rfl) HOa.out s z0 z1 wq.heap.size (by rfl) HCN.out qk hsa ?_
                      intro A7 c7 w7 p1 p2 p3
                      have Q7 := Lib.hid (Qa.out.drew.seal hA9.out (by omega) p1 p2 p3)
                      clear p1 p2 p3
                      refine hK.out _ _ (fun _ => Q7.out.reads) ?_
                      clear hK K
                      try simp only [Act.put, List.setIfInBounds_toArray, List.set_cons_zero, List.set_cons_succ]
                      have hS7 := Q7.out.reads
                      refine anyR_take (i := 12) (.pointer (some ⟨g, 0, none⟩)) rfl (by kernel_rfl) (by kernel_rfl) (by kernel_rfl) (by kernel_rfl) (fun _ _ _ h => h) (by assumption) ⟨by rfl, ?_⟩ ?_
                      · intro W hW
                        go_simp
                      try simp only [Act.put, List.setIfInBounds_toArray, List.set_cons_zero, List.set_cons_succ]
                      clear hS7
                      refine anyR_one (i := 10) (by kernel_rfl) rfl ?_
                      intro K hK
                      have Qb := Lib.hid (Q7.out.below (bel_alloc w7 (.cells #[.slice A1 ms.length c1, .slice A2 cs.length c2, .slice A3 as_.length c3] 31)))
                      have Mb := Lib.hid (cs_new (n := w7.heap.size) (w := w7) [.slice A1 ms.length c1, .slice A2 cs.length c2, .slice A3 as_.length c3] 31 (by simp))
                      go_simp
                      refine hK.out _ _ (fun _ => Qb.out.reads) ?_
                      clear hK K
                      try simp only [Act.put, List.setIfInBounds_toArray, List.set_cons_zero, List.set_cons_succ]
                      refine anyR_one (i := 11) (by kernel_rfl) rfl ?_
                      intro K hK
                      have HD := Lib.hid Qb.out.pb.hd
                      have M0 := Lib.hid (Mb.out.cell 0 rfl)
                      have M1 := Lib.hid (Mb.out.cell 1 rfl)
                      have M2 := Lib.hid (Mb.out.cell 2 rfl)
                      have szp : w.heap.size + 1 ≤ (w7.alloc (.cells #[.slice A1 ms.length c1, .slice A2 cs.length c2, .slice A3 as_.length c3] 31)).heap.size := by have := Qb.out.bel.size; omega
                      refine step_app_bp _ (by rfl) _ _ (by rfl) (w.heap.size + 1) B j d hv (by rfl) HD.out (.slice A1 ms.length c1) (.slice A2 cs.length c2) (.slice A3 as_.length c3) rfl rfl rfl w7.heap.size (by rfl) M0.out M1.out M2.out (by omega) szp ?_
                      intro B7 d7 w10 q1 q2
                      obtain ⟨PB1, BO1, BL1⟩ := Qb.out.proof hLr (by omega) q1 q2
                      have CR := Qb.out.cr.kept q2 (fun e => absurd (hB9.out _ e.symm) (Nat.lt_irrefl _))
                      have S11 := Lib.hid (show (w10.cell? ⟨g, 0, none⟩ = some (.slice A' j c') ∧ w10.cell? ⟨g, 1, none⟩ = some (.slice B j d) ∧ w10.cell? ⟨r, 0, none⟩ = some (.slice A1 ms.length c1) ∧ w10.cell? ⟨r, 1, none⟩ = some (.slice A2 cs.length c2) ∧ w10.cell? ⟨r, 2, none⟩ = some (.slice A3 as_.length c3)) from ⟨BO1.cells.1, BO1.cells.2.1, CR.cell 0 rfl, CR.cell 1 rfl, CR.cell 2 rfl⟩)
                      obtain ⟨BO2, G2⟩ := BO1.set0 (.slice A7 (j + 1) c7)
                      have PB2 := PB1.keep BO1 G2
                      obtain ⟨BO3, G3⟩ := BO2.set1 (.slice B7 (j + 1) d7)
                      have PB3 := Lib.hid (PB2.keep BO2 G3)
                      have BO3H := Lib.hid BO3
                      have BL3 := (BL1.setCell (p := ⟨g, 0, none⟩) hgw (.slice A7 (j + 1) c7)).setCell (p := ⟨g, 1, none⟩) hgw (.slice B7 (j + 1) d7)
                      have e0 := BO1.cells.1
                      have f0 := BO1.free 0
                      have e1' := BO2.cells.2.1
                      have f1 := BO2.free 1
                      clear q1 q2 PB1 BO1 BL1 CR BO2 G2 PB2 BO3 G3
                      refine hK.out _ _ (fun _ => S11.out) ?_
                      clear hK K
                      try simp only [Act.put, List.setIfInBounds_toArray, List.set_cons_zero, List.set_cons_succ]
                      refine anyR_one (i := 13) (by kernel_rfl) rfl ?_
                      intro K hK
                      go_simp
                      refine hK.out _ _ (fun h => absurd h (by decide)) ?_
                      clear hK K
                      try simp only [Act.put, List.setIfInBounds_toArray, List.set_cons_zero, List.set_cons_succ]
                      refine anyR_one (i := 14) (by kernel_rfl) rfl ?_
                      intro K hK
                      go_simp
                      refine hK.out _ _ (fun h => absurd h (by decide)) ?_
                      clear hK K
                      try simp only [Act.put, List.setIfInBounds_toArray, List.set_cons_zero, List.set_cons_succ]
                      refine anyR_one (i := 15) (by kernel_rfl) rfl ?_
                      intro K hK
                      go_simp
                      refine hK.out _ _ (fun h => absurd h (by decide)) ?_
                      clear hK K
                      try simp only [Act.put, List.setIfInBounds_toArray, List.set_cons_zero, List.set_cons_succ]
                      refine anyR_done (by kernel_rfl) ?_ _
                      refine NoPanic.normal ?_
                      obtain ⟨wz, hwz⟩ : ∃ z, (w10.setCell ⟨g, 0, none⟩ (.slice A7 (j + 1) c7)).setCell ⟨g, 1, none⟩ (.slice B7 (j + 1) d7) = z := ⟨_, rfl⟩
                      rw [hwz] at PB3 BO3H BL3 ⊢
                      clear hwz e0 f0 e1' f1 hS0
                      obtain ⟨BO4, G4⟩ := BO3H.out.set2 (.int .i64 k')
                      have PF := Lib.hid (PB3.out.keep BO3H.out G4)
                      have BF := Lib.hid BO4
                      have BLF := BL3.setCell (p := ⟨g, 2, none⟩) hgw (.int .i64 k')
                      have e2' := BO3H.out.cells.2.2
                      have f2 := BO3H.out.free 2
                      clear BO4 G4
                      go_wp2_with fail
                      go_roundw
                      case rel => exact ⟨j + 1, A7, c7, B7, d7, _, by omega, by go_num, by rw [HK1.out]; exact BF.out, by rw [CS.out, CP.out]; exact PF.out, BLF, NX.out⟩
                      case measure => simp [intOf]; omega
                    · intro K hK
                      have Qb := Lib.hid (Qa.out.below (bel_alloc (wq.alloc (.cells #[.int .i64 s] 2)) (.cells #[.slice A1 ms.length c1, .slice A2 cs.length c2, .slice A3 as_.length c3] 31)))
                      have Mb := Lib.hid (cs_new (n := (wq.heap.size + 1)) (w := (wq.alloc (.cells #[.int .i64 s] 2))) [.slice A1 ms.length c1, .slice A2 cs.length c2, .slice A3 as_.length c3] 31 (by simp))
                      go_simp
                      refine hK.out _ _ (fun _ => Qb.out.reads) ?_
                      clear hK K
                      try simp only [Act.put, List.setIfInBounds_toArray, List.set_cons_zero, List.set_cons_succ]
                      have Nb := Lib.hid (Na.out.below (bel_alloc (wq.alloc (.cells #[.int .i64 s] 2)) (.cells #[.slice A1 ms.length c1, .slice A2 cs.length c2, .slice A3 as_.length c3] 31)))
                      refine anyR_one (i := 6) (by kernel_rfl) rfl ?_
                      intro K hK
                      have HOa := Lib.hid Qb.out.pb.own
                      have HCN := Lib.hid (Nb.out.cell 0 rfl)
                      have hsa : w.heap.size + 1 ≤ ((wq.alloc (.cells #[.int .i64 s] 2)).alloc (.cells #[.slice A1 ms.length c1, .slice A2 cs.length c2, .slice A3 as_.length c3] 31)).heap.size := by have := Qb.out.bel.size; omega
                      refine step_app_int _ (by rfl) _ _ (by rfl) (w.heap.size + 1) A' j c' _ (by rfl) HOa.out s z0 z1 wq.heap.size (by rfl) HCN.out qk hsa ?_
                      intro A7 c7 w7 p1 p2 p3
                      have Q7 := Lib.hid (Qb.out.drew.seal hA9.out (by omega) p1 p2 p3)
                      have M7 := Lib.hid (Mb.out.drew.kept p2 (fun e => absurd (hA9.out _ e.symm) (by have := SZ.out; omega)))
                      clear p1 p2 p3
                      refine hK.out _ _ (fun _ => Q7.out.reads) ?_
                      clear hK K
                      try simp only [Act.put, List.setIfInBounds_toArray, List.set_cons_zero, List.set_cons_succ]
                      have hS7 := Q7.out.reads
                      refine anyR_take (i := 12) (.pointer (some ⟨g, 0, none⟩)) rfl (by kernel_rfl) (by kernel_rfl) (by kernel_rfl) (by kernel_rfl) (fun _ _ _ h => h) (by assumption) ⟨by rfl, ?_⟩ ?_
                      · intro W hW
                        go_simp
                      try simp only [Act.put, List.setIfInBounds_toArray, List.set_cons_zero, List.set_cons_succ]
                      clear hS7
                      refine anyR_one (i := 11) (by kernel_rfl) rfl ?_
                      intro K hK
                      have HD := Lib.hid Q7.out.pb.hd
                      have M0 := Lib.hid (M7.out.cell 0 rfl)
                      have M1 := Lib.hid (M7.out.cell 1 rfl)
                      have M2 := Lib.hid (M7.out.cell 2 rfl)
                      have szp : w.heap.size + 1 ≤ w7.heap.size := by have := Q7.out.bel.size; omega
                      refine step_app_bp _ (by rfl) _ _ (by rfl) (w.heap.size + 1) B j d hv (by rfl) HD.out (.slice A1 ms.length c1) (.slice A2 cs.length c2) (.slice A3 as_.length c3) rfl rfl rfl (wq.heap.size + 1) (by rfl) M0.out M1.out M2.out (by omega) szp ?_
                      intro B7 d7 w10 q1 q2
                      obtain ⟨PB1, BO1, BL1⟩ := Q7.out.proof hLr (by omega) q1 q2
                      have CR := Q7.out.cr.kept q2 (fun e => absurd (hB9.out _ e.symm) (Nat.lt_irrefl _))
                      have S11 := Lib.hid (show (w10.cell? ⟨g, 0, none⟩ = some (.slice A' j c') ∧ w10.cell? ⟨g, 1, none⟩ = some (.slice B j d) ∧ w10.cell? ⟨r, 0, none⟩ = some (.slice A1 ms.length c1) ∧ w10.cell? ⟨r, 1, none⟩ = some (.slice A2 cs.length c2) ∧ w10.cell? ⟨r, 2, none⟩ = some (.slice A3 as_.length c3)) from ⟨BO1.cells.1, BO1.cells.2.1, CR.cell 0 rfl, CR.cell 1 rfl, CR.cell 2 rfl⟩)
                      obtain ⟨BO2, G2⟩ := BO1.set0 (.slice A7 (j + 1) c7)
                      have PB2 := PB1.keep BO1 G2
                      obtain ⟨BO3, G3⟩ := BO2.set1 (.slice B7 (j + 1) d7)
                      have PB3 := Lib.hid (PB2.keep BO2 G3)
                      have BO3H := Lib.hid BO3
                      have BL3 := (BL1.setCell (p := ⟨g, 0, none⟩) hgw (.slice A7 (j + 1) c7)).setCell (p := ⟨g, 1, none⟩) hgw (.slice B7 (j + 1) d7)
                      have e0 := BO1.cells.1
                      have f0 := BO1.free 0
                      have e1' := BO2.cells.2.1
                      have f1 := BO2.free 1
                      clear q1 q2 PB1 BO1 BL1 CR BO2 G2 PB2 BO3 G3
                      refine hK.out _ _ (fun _ => S11.out) ?_
                      clear hK K
                      try simp only [Act.put, List.setIfInBounds_toArray, List.set_cons_zero, List.set_cons_succ]
                      refine anyR_one (i := 13) (by kernel_rfl) rfl ?_
                      intro K hK
                      go_simp
                      refine hK.out _ _ (fun h => absurd h (by decide)) ?_
                      clear hK K
                      try simp only [Act.put, List.setIfInBounds_toArray, List.set_cons_zero, List.set_cons_succ]
                      refine anyR_one (i := 14) (by kernel_rfl) rfl ?_
                      intro K hK
                      go_simp
                      refine hK.out _ _ (fun h => absurd h (by decide)) ?_
                      clear hK K
                      try simp only [Act.put, List.setIfInBounds_toArray, List.set_cons_zero, List.set_cons_succ]
                      refine anyR_one (i := 15) (by kernel_rfl) rfl ?_
                      intro K hK
                      go_simp
                      refine hK.out _ _ (fun h => absurd h (by decide)) ?_
                      clear hK K
                      try simp only [Act.put, List.setIfInBounds_toArray, List.set_cons_zero, List.set_cons_succ]
                      refine anyR_done (by kernel_rfl) ?_ _
                      refine NoPanic.normal ?_
                      obtain ⟨wz, hwz⟩ : ∃ z, (w10.setCell ⟨g, 0, none⟩ (.slice A7 (j + 1) c7)).setCell ⟨g, 1, none⟩ (.slice B7 (j + 1) d7) = z := ⟨_, rfl⟩
                      rw [hwz] at PB3 BO3H BL3 ⊢
                      clear hwz e0 f0 e1' f1 hS0
                      obtain ⟨BO4, G4⟩ := BO3H.out.set2 (.int .i64 k')
                      have PF := Lib.hid (PB3.out.keep BO3H.out G4)
                      have BF := Lib.hid BO4
                      have BLF := BL3.setCell (p := ⟨g, 2, none⟩) hgw (.int .i64 k')
                      have e2' := BO3H.out.cells.2.2
                      have f2 := BO3H.out.free 2
                      clear BO4 G4
                      go_wp2_with fail
                      go_roundw
                      case rel => exact ⟨j + 1, A7, c7, B7, d7, _, by omega, by go_num, by rw [HK1.out]; exact BF.out, by rw [CS.out, CP.out]; exact PF.out, BLF, NX.out⟩
                      case measure => simp [intOf]; omega
                  · intro K hK
                    have Qa := Lib.hid (Q0.out.below (bel_alloc wq (.cells #[.slice A1 ms.length c1, .slice A2 cs.length c2, .slice A3 as_.length c3] 31)))
                    have Ma := Lib.hid (cs_new (n := wq.heap.size) (w := wq) [.slice A1 ms.length c1, .slice A2 cs.length c2, .slice A3 as_.length c3] 31 (by simp))
                    go_simp
                    refine hK.out _ _ (fun _ => Qa.out.reads) ?_
                    clear hK K
                    try simp only [Act.put, List.setIfInBounds_toArray, List.set_cons_zero, List.set_cons_succ]
                    refine anyR_one (i := 5) (by kernel_rfl) rfl ?_
                    intro K hK
                    have Qb := Lib.hid (Qa.out.below (bel_alloc (wq.alloc (.cells #[.slice A1 ms.length c1, .slice A2 cs.length c2, .slice A3 as_.length c3] 31)) (.cells #[.int .i64 s] 2)))
                    have Nb := Lib.hid (cs_new (n := (wq.heap.size + 1)) (w := (wq.alloc (.cells #[.slice A1 ms.length c1, .slice A2 cs.length c2, .slice A3 as_.length c3] 31))) [.int .i64 s] 2 (by simp))
                    go_simp
                    refine hK.out _ _ (fun _ => Qb.out.reads) ?_
                    clear hK K
                    try simp only [Act.put, List.setIfInBounds_toArray, List.set_cons_zero, List.set_cons_succ]
                    have Mb := Lib.hid (Ma.out.below (bel_alloc (wq.alloc (.cells #[.slice A1 ms.length c1, .slice A2 cs.length c2, .slice A3 as_.length c3] 31)) (.cells #[.int .i64 s] 2)))
                    refine anyR_one (i := 6) (by kernel_rfl) rfl ?_
                    intro K hK
                    have HOa := Lib.hid Qb.out.pb.own
                    have HCN := Lib.hid (Nb.out.cell 0 rfl)
                    have hsa : w.heap.size + 1 ≤ ((wq.alloc (.cells #[.slice A1 ms.length c1, .slice A2 cs.length c2, .slice A3 as_.length c3] 31)).alloc (.cells #[.int .i64 s] 2)).heap.size := by have := Qb.out.bel.size; omega
                    refine step_app_int _ (by rfl) _ _ (by rfl) (w.heap.size + 1) A' j c' _ (by rfl) HOa.out s z0 z1 (wq.heap.size + 1) (by rfl) HCN.out qk hsa ?_
                    intro A7 c7 w7 p1 p2 p3
                    have Q7 := Lib.hid (Qb.out.drew.seal hA9.out (by omega) p1 p2 p3)
                    have M7 := Lib.hid (Mb.out.drew.kept p2 (fun e => absurd (hA9.out _ e.symm) (by have := SZ.out; omega)))
                    clear p1 p2 p3
                    refine hK.out _ _ (fun _ => Q7.out.reads) ?_
                    clear hK K
                    try simp only [Act.put, List.setIfInBounds_toArray, List.set_cons_zero, List.set_cons_succ]
                    have hS7 := Q7.out.reads
                    refine anyR_take (i := 12) (.pointer (some ⟨g, 0, none⟩)) rfl (by kernel_rfl) (by kernel_rfl) (by kernel_rfl) (by kernel_rfl) (fun _ _ _ h => h) (by assumption) ⟨by rfl, ?_⟩ ?_
                    · intro W hW
                      go_simp
                    try simp only [Act.put, List.setIfInBounds_toArray, List.set_cons_zero, List.set_cons_succ]
                    clear hS7
                    refine anyR_one (i := 11) (by kernel_rfl) rfl ?_
                    intro K hK
                    have HD := Lib.hid Q7.out.pb.hd
                    have M0 := Lib.hid (M7.out.cell 0 rfl)
                    have M1 := Lib.hid (M7.out.cell 1 rfl)
                    have M2 := Lib.hid (M7.out.cell 2 rfl)
                    have szp : w.heap.size + 1 ≤ w7.heap.size := by have := Q7.out.bel.size; omega
                    refine step_app_bp _ (by rfl) _ _ (by rfl) (w.heap.size + 1) B j d hv (by rfl) HD.out (.slice A1 ms.length c1) (.slice A2 cs.length c2) (.slice A3 as_.length c3) rfl rfl rfl wq.heap.size (by rfl) M0.out M1.out M2.out (by omega) szp ?_
                    intro B7 d7 w10 q1 q2
                    obtain ⟨PB1, BO1, BL1⟩ := Q7.out.proof hLr (by omega) q1 q2
                    have CR := Q7.out.cr.kept q2 (fun e => absurd (hB9.out _ e.symm) (Nat.lt_irrefl _))
                    have S11 := Lib.hid (show (w10.cell? ⟨g, 0, none⟩ = some (.slice A' j c') ∧ w10.cell? ⟨g, 1, none⟩ = some (.slice B j d) ∧ w10.cell? ⟨r, 0, none⟩ = some (.slice A1 ms.length c1) ∧ w10.cell? ⟨r, 1, none⟩ = some (.slice A2 cs.length c2) ∧ w10.cell? ⟨r, 2, none⟩ = some (.slice A3 as_.length c3)) from ⟨BO1.cells.1, BO1.cells.2.1, CR.cell 0 rfl, CR.cell 1 rfl, CR.cell 2 rfl⟩)
                    obtain ⟨BO2, G2⟩ := BO1.set0 (.slice A7 (j + 1) c7)
                    have PB2 := PB1.keep BO1 G2
                    obtain ⟨BO3, G3⟩ := BO2.set1 (.slice B7 (j + 1) d7)
                    have PB3 := Lib.hid (PB2.keep BO2 G3)
                    have BO3H := Lib.hid BO3
                    have BL3 := (BL1.setCell (p := ⟨g, 0, none⟩) hgw (.slice A7 (j + 1) c7)).setCell (p := ⟨g, 1, none⟩) hgw (.slice B7 (j + 1) d7)
                    have e0 := BO1.cells.1
                    have f0 := BO1.free 0
                    have e1' := BO2.cells.2.1
                    have f1 := BO2.free 1
                    clear q1 q2 PB1 BO1 BL1 CR BO2 G2 PB2 BO3 G3
                    refine hK.out _ _ (fun _ => S11.out) ?_
                    clear hK K
                    try simp only [Act.put, List.setIfInBounds_toArray, List.set_cons_zero, List.set_cons_succ]
                    refine anyR_one (i := 13) (by kernel_rfl) rfl ?_
                    intro K hK
                    go_simp
                    refine hK.out _ _ (fun h => absurd h (by decide)) ?_
                    clear hK K
                    try simp only [Act.put, List.setIfInBounds_toArray, List.set_cons_zero, List.set_cons_succ]
                    refine anyR_one (i := 14) (by kernel_rfl) rfl ?_
                    intro K hK
                    go_simp
                    refine hK.out _ _ (fun h => absurd h (by decide)) ?_
                    clear hK K
                    try simp only [Act.put, List.setIfInBounds_toArray, List.set_cons_zero, List.set_cons_succ]
                    refine anyR_one (i := 15) (by kernel_rfl) rfl ?_
                    intro K hK
                    go_simp
                    refine hK.out _ _ (fun h => absurd h (by decide)) ?_
                    clear hK K
                    try simp only [Act.put, List.setIfInBounds_toArray, List.set_cons_zero, List.set_cons_succ]
                    refine anyR_done (by kernel_rfl) ?_ _
                    refine NoPanic.normal ?_
                    obtain ⟨wz, hwz⟩ : ∃ z, (w10.setCell ⟨g, 0, none⟩ (.slice A7 (j + 1) c7)).setCell ⟨g, 1, none⟩ (.slice B7 (j + 1) d7) = z := ⟨_, rfl⟩
                    rw [hwz] at PB3 BO3H BL3 ⊢
                    clear hwz e0 f0 e1' f1 hS0
                    obtain ⟨BO4, G4⟩ := BO3H.out.set2 (.int .i64 k')
                    have PF := Lib.hid (PB3.out.keep BO3H.out G4)
                    have BF := Lib.hid BO4
                    have BLF := BL3.setCell (p := ⟨g, 2, none⟩) hgw (.int .i64 k')
                    have e2' := BO3H.out.cells.2.2
                    have f2 := BO3H.out.free 2
                    clear BO4 G4
                    go_wp2_with fail
                    go_roundw
                    case rel => exact ⟨j + 1, A7, c7, B7, d7, _, by omega, by go_num, by rw [HK1.out]; exact BF.out, by rw [CS.out, CP.out]; exact PF.out, BLF, NX.out⟩
                    case measure => simp [intOf]; omega
                · intro K hK
                  have Qa := Lib.hid (Q0.out.below (bel_alloc wq (.cells #[.slice A1 ms.length c1, .slice A2 cs.length c2, .slice A3 as_.length c3] 31)))
                  have Ma := Lib.hid (cs_new (n := wq.heap.size) (w := wq) [.slice A1 ms.length c1, .slice A2 cs.length c2, .slice A3 as_.length c3] 31 (by simp))
                  go_simp
                  refine hK.out _ _ (fun _ => Qa.out.reads) ?_
                  clear hK K
                  try simp only [Act.put, List.setIfInBounds_toArray, List.set_cons_zero, List.set_cons_succ]
                  have hS1 := Qa.out.drew.reads
                  refine anyR_one (i := 4) (by kernel_rfl) rfl ?_
                  intro K hK
                  go_simp
                  go_at_call 55
                  refine (sealed_any 0 x _ (by omega) (by omega) (by omega) (by omega)).mono ?_
                  rintro e w' ⟨rfl, rfl⟩
                  rw [HR.out]
                  refine hK.out _ _ (fun _ => Qa.out.reads) ?_
                  clear hK K
                  try simp only [Act.put, List.setIfInBounds_toArray, List.set_cons_zero, List.set_cons_succ]
                  refine anyR_one (i := 5) (by kernel_rfl) rfl ?_
                  intro K hK
                  have Qb := Lib.hid (Qa.out.below (bel_alloc (wq.alloc (.cells #[.slice A1 ms.length c1, .slice A2 cs.length c2, .slice A3 as_.length c3] 31)) (.cells #[.int .i64 s] 2)))
                  have Nb := Lib.hid (cs_new (n := (wq.heap.size + 1)) (w := (wq.alloc (.cells #[.slice A1 ms.length c1, .slice A2 cs.length c2, .slice A3 as_.length c3] 31))) [.int .i64 s] 2 (by simp))
                  go_simp
                  refine hK.out _ _ (fun _ => Qb.out.reads) ?_
                  clear hK K
                  try simp only [Act.put, List.setIfInBounds_toArray, List.set_cons_zero, List.set_cons_succ]
                  have Mb := Lib.hid (Ma.out.below (bel_alloc (wq.alloc (.cells #[.slice A1 ms.length c1, .slice A2 cs.length c2, .slice A3 as_.length c3] 31)) (.cells #[.int .i64 s] 2)))
                  refine anyR_one (i := 6) (by kernel_rfl) rfl ?_
                  intro K hK
                  have HOa := Lib.hid Qb.out.pb.own
                  have HCN := Lib.hid (Nb.out.cell 0 rfl)
                  have hsa : w.heap.size + 1 ≤ ((wq.alloc (.cells #[.slice A1 ms.length c1, .slice A2 cs.length c2, .slice A3 as_.length c3] 31)).alloc (.cells #[.int .i64 s] 2)).heap.size := by have := Qb.out.bel.size; omega
                  refine step_app_int _ (by rfl) _ _ (by rfl) (w.heap.size + 1) A' j c' _ (by rfl) HOa.out s z0 z1 (wq.heap.size + 1) (by rfl) HCN.out qk hsa ?_
                  intro A7 c7 w7 p1 p2 p3
                  have Q7 := Lib.hid (Qb.out.drew.seal hA9.out (by omega) p1 p2 p3)
                  have M7 := Lib.hid (Mb.out.drew.kept p2 (fun e => absurd (hA9.out _ e.symm) (by have := SZ.out; omega)))
                  clear p1 p2 p3
                  refine hK.out _ _ (fun _ => Q7.out.reads) ?_
                  clear hK K
                  try simp only [Act.put, List.setIfInBounds_toArray, List.set_cons_zero, List.set_cons_succ]
                  have hS7 := Q7.out.reads
                  refine anyR_take (i := 12) (.pointer (some ⟨g, 0, none⟩)) rfl (by kernel_rfl) (by kernel_rfl) (by kernel_rfl) (by kernel_rfl) (fun _ _ _ h => h) (by assumption) ⟨by rfl, ?_⟩ ?_
                  · intro W hW
                    go_simp
                  try simp only [Act.put, List.setIfInBounds_toArray, List.set_cons_zero, List.set_cons_succ]
                  clear hS7
                  refine anyR_one (i := 11) (by kernel_rfl) rfl ?_
                  intro K hK
                  have HD := Lib.hid Q7.out.pb.hd
                  have M0 := Lib.hid (M7.out.cell 0 rfl)
                  have M1 := Lib.hid (M7.out.cell 1 rfl)
                  have M2 := Lib.hid (M7.out.cell 2 rfl)
                  have szp : w.heap.size + 1 ≤ w7.heap.size := by have := Q7.out.bel.size; omega
                  refine step_app_bp _ (by rfl) _ _ (by rfl) (w.heap.size + 1) B j d hv (by rfl) HD.out (.slice A1 ms.length c1) (.slice A2 cs.length c2) (.slice A3 as_.length c3) rfl rfl rfl wq.heap.size (by rfl) M0.out M1.out M2.out (by omega) szp ?_
                  intro B7 d7 w10 q1 q2
                  obtain ⟨PB1, BO1, BL1⟩ := Q7.out.proof hLr (by omega) q1 q2
                  have CR := Q7.out.cr.kept q2 (fun e => absurd (hB9.out _ e.symm) (Nat.lt_irrefl _))
                  have S11 := Lib.hid (show (w10.cell? ⟨g, 0, none⟩ = some (.slice A' j c') ∧ w10.cell? ⟨g, 1, none⟩ = some (.slice B j d) ∧ w10.cell? ⟨r, 0, none⟩ = some (.slice A1 ms.length c1) ∧ w10.cell? ⟨r, 1, none⟩ = some (.slice A2 cs.length c2) ∧ w10.cell? ⟨r, 2, none⟩ = some (.slice A3 as_.length c3)) from ⟨BO1.cells.1, BO1.cells.2.1, CR.cell 0 rfl, CR.cell 1 rfl, CR.cell 2 rfl⟩)
                  obtain ⟨BO2, G2⟩ := BO1.set0 (.slice A7 (j + 1) c7)
                  have PB2 := PB1.keep BO1 G2
                  obtain ⟨BO3, G3⟩ := BO2.set1 (.slice B7 (j + 1) d7)
                  have PB3 := Lib.hid (PB2.keep BO2 G3)
                  have BO3H := Lib.hid BO3
                  have BL3 := (BL1.setCell (p := ⟨g, 0, none⟩) hgw (.slice A7 (j + 1) c7)).setCell (p := ⟨g, 1, none⟩) hgw (.slice B7 (j + 1) d7)
                  have e0 := BO1.cells.1
                  have f0 := BO1.free 0
                  have e1' := BO2.cells.2.1
                  have f1 := BO2.free 1
                  clear q1 q2 PB1 BO1 BL1 CR BO2 G2 PB2 BO3 G3
                  refine hK.out _ _ (fun _ => S11.out) ?_
                  clear hK K
                  try simp only [Act.put, List.setIfInBounds_toArray, List.set_cons_zero, List.set_cons_succ]
                  refine anyR_one (i := 13) (by kernel_rfl) rfl ?_
                  intro K hK
                  go_simp
                  refine hK.out _ _ (fun h => absurd h (by decide)) ?_
                  clear hK K
                  try simp only [Act.put, List.setIfInBounds_toArray, List.set_cons_zero, List.set_cons_succ]
                  refine anyR_one (i := 14) (by kernel_rfl) rfl ?_
                  intro K hK
                  go_simp
                  refine hK.out _ _ (fun h => absurd h (by decide)) ?_
                  clear hK K
                  try simp only [Act.put, List.setIfInBounds_toArray, List.set_cons_zero, List.set_cons_succ]
                  refine anyR_one (i := 15) (by kernel_rfl) rfl ?_
                  intro K hK
                  go_simp
                  refine hK.out _ _ (fun h => absurd h (by decide)) ?_
                  clear hK K
                  try simp only [Act.put, List.setIfInBounds_toArray, List.set_cons_zero, List.set_cons_succ]
                  refine anyR_done (by kernel_rfl) ?_ _
                  refine NoPanic.normal ?_
                  obtain ⟨wz, hwz⟩ : ∃ z, (w10.setCell ⟨g, 0, none⟩ (.slice A7 (j + 1) c7)).setCell ⟨g, 1, none⟩ (.slice B7 (j + 1) d7) = z := ⟨_, rfl⟩
                  rw [hwz] at PB3 BO3H BL3 ⊢
                  clear hwz e0 f0 e1' f1 hS0
                  obtain ⟨BO4, G4⟩ := BO3H.out.set2 (.int .i64 k')
                  have PF := Lib.hid (PB3.out.keep BO3H.out G4)
                  have BF := Lib.hid BO4
                  have BLF := BL3.setCell (p := ⟨g, 2, none⟩) hgw (.int .i64 k')
                  have e2' := BO3H.out.cells.2.2
                  have f2 := BO3H.out.free 2
                  clear BO4 G4
                  go_wp2_with fail
                  go_roundw
                  case rel => exact ⟨j + 1, A7, c7, B7, d7, _, by omega, by go_num, by rw [HK1.out]; exact BF.out, by rw [CS.out, CP.out]; exact PF.out, BLF, NX.out⟩
                  case measure => simp [intOf]; omega
          · obtain rfl : j = 3 := by omega
            have EV : Hid (slB vote ks nss = true) := by show _ = _; rw [ER.out]; exact all_end (p := fun l => allB l 3 expB) (by omega) HA.out
            have ES : Hid (slV vote ks nss = (slS vote ks 3, slP vote ks nss 3, slK ks 3)) := by show _ = _; simp [slV, EV.out]
            obtain ⟨k0, k1, k2⟩ := HV.out.cells
            have C0 := RR.out.below HL.out
            have q0r := C0.cell 0 rfl
            have q1r := C0.cell 1 rfl
            have q2r := C0.cell 2 rfl
            have f0r := C0.free 0 rfl
            have f1r := C0.free 1 rfl
            have f2r := C0.free 2 rfl
            have ltr := C0.1
            obtain ⟨key, hkey⟩ : ∃ r, slK ks 3 = r := ⟨_, rfl⟩
            rw [hkey] at ES HV k2
            clear hkey
            have hfin := bel_trans x0 HL.out
            have G := ((hfin.setCell (p := ⟨w.heap.size, 0, none⟩) (Nat.le_refl _) (.slice A' 3 c')).setCell (p := ⟨w.heap.size, 1, none⟩) (Nat.le_refl _) (.slice B 3 d)).setCell (p := ⟨w.heap.size, 2, none⟩) (Nat.le_refl _) (.int .i64 key)
            have PF := (((HP.out.far (g' := w.heap.size) (by omega) 0 (.slice A' 3 c')).far (g' := w.heap.size) (by omega) 1 (.slice B 3 d)).far (g' := w.heap.size) (by omega) 2 (.int .i64 key)).mono (b2 := w.heap.size) (by omega)
            have D := ((C0.set 0 (.slice A' 3 c') (by simp)).set 1 (.slice B 3 d) (by simp)).set 2 (.int .i64 key) (by simp)
            have PFH := Lib.hid PF
            have DH := Lib.hid D
            clear PF D C0
            go_wp2_with fail
            obtain ⟨w9, hw9⟩ : ∃ w9, ((wr.setCell ⟨w.heap.size, 0, none⟩ (.slice A' 3 c')).setCell ⟨w.heap.size, 1, none⟩ (.slice B 3 d)).setCell ⟨w.heap.size, 2, none⟩ (.int .i64 key) = w9 := ⟨_, rfl⟩
            rw [hw9] at PFH DH G ⊢
            have y0 := DH.out.cell 0 (v := .slice A' 3 c') (by simp)
            have y1 := DH.out.cell 1 (v := .slice B 3 d) (by simp)
            have y2 := DH.out.cell 2 (v := .int .i64 key) (by simp)
            refine bodyPost_ret (v := .tuple #[.agg #[.slice A' 3 c', .slice B 3 d, .int .i64 key], .bool true]) (by simp [results, Try.results27, go_sem, y0, y1, y2]) rfl ?_
            rw [ES.out, EV.out]
            have l1 : (slS vote ks 3).length = 3 := by simp [slS]
            have l2 : (slP vote ks nss 3).length = 3 := by simp [slP]
            exact ⟨A', c', B, d, hv, by simp only [l1, l2], by simp only [l1, l2]; exact PFH.out, G⟩
      · have HB := Lib.hid hb
        have HZ := Lib.hid hz
        have hmn : (m : Int) ≠ 3 := by omega
        have R : Hid (slB vote ks nss = false) := by show _ = _; rw [E]; simp; intro _ _ _; omega
        have hmb : ((m : Int) != 3) = true := by simpa using hmn
        clear hb hz E
        go_enter Try.func27, Try.ntmps27
        go_wp2_with fail
        refine (isVote_any _ _).mono ?_
        rintro e w' ⟨rfl, rfl⟩
        rw [HB.out]
        go_wp2_with fail
        refine (areAll_isExponent _ n c ks 3 _ (hk.below b0)).mono ?_
        rintro e w1 ⟨rfl, b1⟩
        rw [HZ.out]
        have D1 := C0.below b1
        have q0a := D1.cell 0 rfl
        have q1a := D1.cell 1 rfl
        have q2a := D1.cell 2 rfl
        have f0a := D1.free 0 rfl
        have f1a := D1.free 1 rfl
        have f2a := D1.free 2 rfl
        have lta := D1.1
        go_wp2_with fail
        obtain ⟨wz, hwz, hbl, d0, d1, d2⟩ := zeroSB D1 (bel_trans b0 b1)
        rw [hwz]
        exact bodyPost_ret (v := .tuple #[.agg #[.slice none 0 0, .slice none 0 0, .int .i64 0], .bool false]) (by simp [results, Try.results27, go_sem, d0, d1, d2]) rfl (givesSB_bad R.out hbl)
structure BR (lo hi : Nat) (w : World) (A : Option Addr) (n c : Nat) (ss : List Int) (B : Option Addr) (m d : Nat) (hv : List Value) (ps : List Bp) : Prop where
  pb : PB lo w A n c ss B m d hv ps
  t0 : ∀ g, (Value.slice A n c).ownBlock = some g → g < hi
  t1 : ∀ g, (Value.slice B m d).ownBlock = some g → g < hi
  t2 : ∀ v ∈ hv, ∀ g, v.ownBlock = some g → g < hi
section
variable {lo hi : Nat} {w : World} {A : Option Addr} {n c : Nat} {ss : List Int} {B : Option Addr} {m d : Nat} {hv : List Value} {ps : List Bp}
theorem BR.mk' (h : PB lo w A n c ss B m d hv ps) : BR lo w.heap.size w A n c ss B m d hv ps := ⟨h, h.tops.1, fun g hg => (h.hd.lt g hg).2, h.tops.2⟩
theorem BR.below (h : BR lo hi w A n c ss B m d hv ps) {w' : World} (b : Below w.heap.size w w') : BR lo hi w' A n c ss B m d hv ps := ⟨h.pb.below b, h.t0, h.t1, h.t2⟩
theorem BR.only (h : BR lo hi w A n c ss B m d hv ps) {w' : World} {lo' hi' : Nat} (o : Only lo' hi' w w') (hd : Off lo hi lo' hi') : BR lo hi w' A n c ss B m d hv ps := by
  unfold Off at hd
  have off : ∀ g, lo ≤ g → g < hi → g < lo' ∨ hi' ≤ g := fun g h1 h2 => by omega
  refine ⟨⟨h.pb.own.only o fun g hg => off g (h.pb.own.block g hg).1 (h.t0 g hg), own_only h.pb.hd fun g hg => o.block g (h.pb.hd.lt g hg).2 (off g (h.pb.hd.lt g hg).1 (h.t1 g hg)), h.pb.len, fun j zs e => ?_, h.pb.apart⟩, h.t0, h.t1, h.t2⟩
  obtain ⟨A', c', e1, q⟩ := h.pb.row j zs e
  exact ⟨A', c', e1, q.only o fun g hg => off g (q.block g hg).1 (h.t2 _ (List.mem_of_getElem? e1) g hg)⟩
theorem BR.ob (h : BR lo hi w A n c ss B m d hv ps) : OB lo hi w A n c B m (.slice A n c :: hv) (ss :: fl3 ps) :=
  ⟨⟨h.pb.ob.rw.len, h.pb.ob.rw.row, h.pb.ob.rw.apart, fun v hv' g hg => by
    rcases List.mem_cons.1 hv' with rfl | hv'
    · exact h.t0 g hg
    · exact h.t2 v hv' g hg⟩, h.pb.ob.head, h.pb.ob.hb, h.pb.ob.len⟩
end
theorem Cs.only {w w' : World} {g : Nat} {l : List Value} {lo hi : Nat} (h : Cs w g l) (o : Only lo hi w w') (hd : g < lo ∨ hi ≤ g) : Cs w' g l := h.same o.size (o.block g h.1 hd)
def GivesS3 (ss : List Int) (ps : List Bp) (key : Int) (b : Bool) (w : World) (e : Ending) (w' : World) : Prop :=
  ∃ A c B d hv, e = .returned (.tuple #[.agg #[.slice A ss.length c, .slice B ps.length d, .int .i64 key], .bool b]) ∧ PB w.heap.size w' A ss.length c ss B ps.length d hv ps ∧ Below w.heap.size w w'
theorem sl_bd (vote : Int) (ks : List Int) (nss : List (List Int)) : (∀ zs ∈ ((slV vote ks nss).1 :: fl3 (slV vote ks nss).2.1), zs.length ≤ 1000) ∧ (slV vote ks nss).2.1.length ≤ 1000 ∧ totL ((slV vote ks nss).1 :: fl3 (slV vote ks nss).2.1) ≤ 1000000000 := by
  unfold slV
  have h1 : (slS vote ks 3).length = 3 := by simp [slS]
  have h2 : (slP vote ks nss 3).length = 3 := by simp [slP]
  have h3 : ∀ zs ∈ fl3 (slP vote ks nss 3), zs.length = 2 := by
    intro zs hz
    unfold fl3 at hz
    obtain ⟨p, hp, hz⟩ := List.mem_flatMap.1 hz
    unfold slP at hp
    obtain ⟨i, _, rfl⟩ := List.mem_map.1 hp
    simp only [List.mem_cons, List.not_mem_nil, or_false] at hz
    rcases hz with rfl | rfl | rfl
    · exact two_length _ _ _
    · exact two_length _ _ _
    · exact two_length _ _ _
  split
  · have h4 : ∀ zs ∈ (slS vote ks 3 :: fl3 (slP vote ks nss 3)), zs.length ≤ 1000 := by
      intro zs hz
      rcases List.mem_cons.1 hz with rfl | hz
      · omega
      · have := h3 zs hz; omega
    refine ⟨h4, by simp only; omega, ?_⟩
    have := totL_le h4
    have h5 : (slS vote ks 3 :: fl3 (slP vote ks nss 3)).length = 10 := by simp [fl3_len, h2]
    simp only
    omega
  · simp [fl3, totL]
end Go.Proofs.Ytnjnngnagdhaiaa
