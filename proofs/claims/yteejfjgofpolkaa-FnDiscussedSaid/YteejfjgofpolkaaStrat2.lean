/- The program's strategy for an argument. -/
import Derived.Test.YteejfjgofpolkaaStrat
namespace Go.Proofs.Yteejfjgofpolkaa
set_option linter.unusedVariables false
set_option linter.unusedSimpArgs false
set_option maxRecDepth 100000
open Go.RowKit Go.Deep
theorem stratI_out (n : Nat) (es : List (Nat × Nat)) (ok : FrOk n es) (a : Nat) (ha : a < n) (hv : (frB n (es.map erow) && inR a 0 ((n : Int) - 1)) = true) (hb : (grdM n es).testBit a = false) (A : Option Addr) (m c : Nat) (w : World) (h : Rws w A m c (es.map erow)) :
    Calls Try.prog 31 #[.agg #[.int .i64 n, .slice A m c], .int .i64 a] w (GivesT [] [] false w) := by
  have b0 := bel_alloc w (.cells #[.int .i64 n, .slice A m c] 26)
  have C0 := Cs.new w [.int .i64 n, .slice A m c] 26
  have b1 := bel_alloc (w.alloc (.cells #[.int .i64 n, .slice A m c] 26)) (.cells #[.slice none 0 0, .slice none 0 0] 39)
  have CT := Lib.hid (Cs.new (w.alloc (.cells #[.int .i64 n, .slice A m c] 26)) [.slice none 0 0, .slice none 0 0] 39)
  rw [show (w.alloc (.cells #[.int .i64 n, .slice A m c] 26)).heap.size = w.heap.size + 1 by simp] at CT
  have n10 := ok.n10
  have OK := Lib.hid ok
  have H := Lib.hid h
  have B0 := Lib.hid (bel_trans b0 b1)
  have HC := Lib.hid (C0.below b1)
  have SZ := Lib.hid (show ((w.alloc (.cells #[.int .i64 n, .slice A m c] 26)).alloc (.cells #[.slice none 0 0, .slice none 0 0] 39)).heap.size = w.heap.size + 2 by simp)
  have y0 := HC.out.cell 0 rfl
  have y1 := HC.out.cell 1 rfl
  have V := Lib.hid (isArgument_any n (by omega) (by omega) a (es.map erow) A m c _ (h.below B0.out))
  rw [hv] at V
  have gl := grdM_lt ok
  have hs := shr_zero (m := grdM n es) (i := a) (by omega) hb
  obtain ⟨gm, hgm⟩ : ∃ r, grdM n es = r := ⟨_, rfl⟩
  rw [hgm] at gl hs
  have HG := Lib.hid hgm
  have j0 : (0 : Int) ≤ (a : Int) := by omega
  have mn0 : min a 64 = a := by omega
  clear h C0 b0 b1 hv hb ok hgm
  go_enter Try.func31, Try.ntmps31
  go_wp2_with fail
  refine V.out.mono ?_
  rintro e w1 ⟨rfl, u1⟩
  have BT := Lib.hid (bel_trans B0.out u1)
  replace CT := Lib.hid (CT.out.below u1)
  have C1 := HC.out.below u1
  have z0 := C1.cell 0 rfl
  have z1 := C1.cell 1 rfl
  clear u1 V y0 y1 C1
  go_wp2_with fail
  refine (grounded_ok n es OK.out A m c _ (H.out.below BT.out)).mono ?_
  rintro e w2 ⟨F, hF, rfl, u2⟩
  rw [grdM_eq OK.out hF, HG.out]
  replace BT := Lib.hid (bel_trans BT.out u2)
  replace CT := Lib.hid (CT.out.below u2)
  clear u2 z0 z1 hF
  have K1 := CT.out
  have f0 := K1.free 0 rfl
  have f1 := K1.free 1 rfl
  have p0 := K1.cell 0 rfl
  have p1 := K1.cell 1 rfl
  have K2 := Lib.hid ((K1.set 0 (.slice none 0 0) (by simp)).set 1 (.slice none 0 0) (by simp))
  have BE := Lib.hid ((BT.out.setCell (p := ⟨w.heap.size + 1, 0, none⟩) (by simp) (.slice none 0 0)).setCell (p := ⟨w.heap.size + 1, 1, none⟩) (by simp) (.slice none 0 0))
  clear K1
  go_wp2_with fail
  have r0 := K2.out.cell 0 (v := .slice none 0 0) (by simp)
  have r1 := K2.out.cell 1 (v := .slice none 0 0) (by simp)
  exact bodyPost_ret (v := .tuple #[.agg #[.slice none 0 0, .slice none 0 0], .bool false]) (by simp [results, Try.results31, go_sem, r0, r1]) rfl (givesT_no BE.out)
theorem rpL_eq {n : Nat} {es : List (Nat × Nat)} (ok : FrOk n es) {F : Nat → Int} (hF : RFin n (attM es) F) {a : Nat} (ha : a < n) : lst n (fun b => rp (attM es b) (rkF F a) n) = rpL n es a := lst_congr fun b hb => by
  unfold rp
  have key : ∀ l : List Int, (∀ x ∈ l, x.toNat < n) → ∀ o : Int, (o = -1 ∨ o.toNat < n) → l.foldl (rpf (rkF F a)) o = l.foldl (rpf (rkF (rndF n es) a)) o := by
    intro l
    induction l with
    | nil => intro _ o _; rfl
    | cons y l ih =>
      intro hl o ho
      have hy := hl y List.mem_cons_self
      have e1 : rpf (rkF F a) o y = rpf (rkF (rndF n es) a) o y := by
        unfold rpf
        rw [rkF_congr (rndF_eq ok hF) ha hy]
        rcases ho with ho | ho
        · simp [ho]
        · rw [rkF_congr (rndF_eq ok hF) ha ho]
      rw [List.foldl_cons, List.foldl_cons, e1]
      refine ih (fun z hz => hl z (List.mem_cons_of_mem _ hz)) _ ?_
      unfold rpf; split
      · exact .inr hy
      · exact ho
  refine key _ (fun x hx => ?_) _ (.inl rfl)
  obtain ⟨i, rfl, hi, _⟩ := bitsTo_mem.1 hx
  simpa using hi
theorem strat_step (n k a g3 g : Nat) (A1 : Option Addr) (c1 : Nat) (F : Nat → Int) (w w2 wr : World) (c3 : Nat) (z : Int) (A : Option Addr) (m c : Nat)
    (s4 : SI wr w.heap.size g A1 k c1 (lst k (rkF F a)) none 0 0 []) (o4 : OwnI wr w2.heap.size (some ⟨g3, 0, none⟩) n c3 (lst n F)) (x1 : (Value.slice A1 k c1).ownBlock ≠ some g3) (x2 : (Value.slice A1 k c1).ownBlock ≠ some w.heap.size) (x3 : (Value.slice A1 k c1).ownBlock ≠ some (w.heap.size + 1))
    (cc : Cs wr w.heap.size [.int .i64 n, .slice A m c]) (ct : Cs wr (w.heap.size + 1) [.slice none 0 0, .slice none 0 0]) (bb : Below w.heap.size w wr) (h3 : g3 < g) (hg : w.heap.size + 2 ≤ g)
    {A7 : Option Addr} {c7 : Nat} {w7 : World} (p1 : OwnI w7 w.heap.size A7 (k + 1) c7 (lst k (rkF F a) ++ [z])) (p2 : wr.grownBy w7 (Value.slice A1 k c1).ownBlock) (p3 : NewBlk wr (.slice A1 k c1) (.slice A7 (k + 1) c7)) :
    Cs w7 g [.slice A1 k c1, .slice none 0 0] ∧ SI (w7.setCell ⟨g, 0, none⟩ (.slice A7 (k + 1) c7)) w.heap.size g A7 (k + 1) c7 (lst k (rkF F a) ++ [z]) none 0 0 [] ∧
    OwnI (w7.setCell ⟨g, 0, none⟩ (.slice A7 (k + 1) c7)) w2.heap.size (some ⟨g3, 0, none⟩) n c3 (lst n F) ∧ (Value.slice A7 (k + 1) c7).ownBlock ≠ some g3 ∧ (Value.slice A7 (k + 1) c7).ownBlock ≠ some w.heap.size ∧ (Value.slice A7 (k + 1) c7).ownBlock ≠ some (w.heap.size + 1) ∧
    Cs (w7.setCell ⟨g, 0, none⟩ (.slice A7 (k + 1) c7)) w.heap.size [.int .i64 n, .slice A m c] ∧ Cs (w7.setCell ⟨g, 0, none⟩ (.slice A7 (k + 1) c7)) (w.heap.size + 1) [.slice none 0 0, .slice none 0 0] ∧ Below w.heap.size w (w7.setCell ⟨g, 0, none⟩ (.slice A7 (k + 1) c7)) := by
  obtain ⟨q1, q2⟩ := s4.app0 p1 p2 p3
  refine ⟨q1, q2, ?_, ne_new x1 (o4.block g3 rfl).2 p3, ne_new x2 cc.1 p3, ne_new x3 ct.1 p3, ?_, ?_, ?_⟩
  · refine (o4.kept p2 (.inr fun e => x1 e.symm)).aside ?_ 0 _
    show (some g3 : Option Nat) ≠ some g
    intro e; injection e with e; omega
  · exact (cc.kept p2 (fun e => x2 e.symm)).far (by omega) 0 _
  · exact (ct.kept p2 (fun e => x3 e.symm)).far (by omega) 0 _
  · exact (bb.grown p2 bb.size (fun x hx => (s4.o1.block x hx).1)).setCell (p := ⟨g, 0, none⟩) (show w.heap.size ≤ g by omega) _
theorem strat_step2 (n j g : Nat) (A1 : Option Addr) (c1 : Nat) (A2 : Option Addr) (c2 : Nat) (zs ys : List Int) (w wr : World) (A5 : Option Addr) (c5 : Nat) (ws : List Int) (z : Int)
    (s4 : SI wr w.heap.size g A1 n c1 zs A2 j c2 ys) (n5 : OwnN wr 0 A5 n c5 ws) (ng : (Value.slice A5 n c5).ownBlock ≠ some g) (x3 : (Value.slice A2 j c2).ownBlock ≠ some (w.heap.size + 1))
    (ct : Cs wr (w.heap.size + 1) [.slice none 0 0, .slice none 0 0]) (bb : Below w.heap.size w wr) (hg : w.heap.size + 2 ≤ g)
    {A7 : Option Addr} {c7 : Nat} {w7 : World} (p1 : OwnI w7 w.heap.size A7 (j + 1) c7 (ys ++ [z])) (p2 : wr.grownBy w7 (Value.slice A2 j c2).ownBlock) (p3 : NewBlk wr (.slice A2 j c2) (.slice A7 (j + 1) c7)) :
    Cs w7 g [.slice A1 n c1, .slice A2 j c2] ∧ SI (w7.setCell ⟨g, 1, none⟩ (.slice A7 (j + 1) c7)) w.heap.size g A1 n c1 zs A7 (j + 1) c7 (ys ++ [z]) ∧
    OwnN (w7.setCell ⟨g, 1, none⟩ (.slice A7 (j + 1) c7)) 0 A5 n c5 ws ∧ (Value.slice A7 (j + 1) c7).ownBlock ≠ some (w.heap.size + 1) ∧
    Cs (w7.setCell ⟨g, 1, none⟩ (.slice A7 (j + 1) c7)) (w.heap.size + 1) [.slice none 0 0, .slice none 0 0] ∧ Below w.heap.size w (w7.setCell ⟨g, 1, none⟩ (.slice A7 (j + 1) c7)) := by
  obtain ⟨q1, q2⟩ := s4.app1 p1 p2 p3
  refine ⟨q1, q2, ?_, ne_new x3 ct.1 p3, ?_, ?_⟩
  · exact (n5.kept p2 (own_ne n5.1 s4.o2.1 (by decide))).kept (grown_cell w7 g 1 _) (.inr ng)
  · exact (ct.kept p2 (fun e => x3 e.symm)).far (by omega) 1 _
  · exact (bb.grown p2 bb.size (fun x hx => (s4.o2.block x hx).1)).setCell (p := ⟨g, 1, none⟩) (show w.heap.size ≤ g by omega) _
theorem givesT_lst {n : Nat} {F G : Nat → Int} {z1 z2 : List Int} {w w' : World} {A B : Option Addr} {c d : Nat} (e1 : lst n F = z1) (e2 : lst n G = z2) (o1 : OwnI w' w.heap.size A n c (lst n F)) (o2 : OwnI w' w.heap.size B n d (lst n G)) (ap : Apart (.slice A n c) (.slice B n d)) (b : Below w.heap.size w w') :
    GivesT z1 z2 true w (.returned (.tuple #[.agg #[.slice A n c, .slice B n d], .bool true])) w' := by
  subst e1 e2
  have l1 := lst_len n F
  have l2 := lst_len n G
  refine ⟨A, c, B, d, by rw [l1, l2], ?_, ?_, ?_, b⟩
  · rw [l1]; exact o1
  · rw [l2]; exact o2
  · rw [l1, l2]; exact ap
theorem rpf_range {n : Nat} (R : Nat → Int) : ∀ (l : List Int) (o : Int), (∀ x ∈ l, ∃ q : Nat, x = q ∧ q < n) → (o = -1 ∨ ∃ q : Nat, o = q ∧ q < n) → (l.foldl (rpf R) o = -1 ∨ ∃ q : Nat, l.foldl (rpf R) o = q ∧ q < n)
  | [], o, _, h => h
  | x :: l, o, hl, h => rpf_range R l (rpf R o x) (fun y hy => hl y (List.mem_cons_of_mem _ hy)) (by
    unfold rpf; split
    · exact .inr (hl x List.mem_cons_self)
    · exact h)
set_option maxHeartbeats 4000000 in
theorem stratI_in (n : Nat) (es : List (Nat × Nat)) (ok : FrOk n es) (a : Nat) (ha : a < n) (hv : (frB n (es.map erow) && inR a 0 ((n : Int) - 1)) = true) (hb : (grdM n es).testBit a = true) (A : Option Addr) (m c : Nat) (w : World) (h : Rws w A m c (es.map erow)) :
    Calls Try.prog 31 #[.agg #[.int .i64 n, .slice A m c], .int .i64 a] w (GivesT (rkL n es a) (rpL n es a) true w) := by
  have b0 := bel_alloc w (.cells #[.int .i64 n, .slice A m c] 26)
  have C0 := Cs.new w [.int .i64 n, .slice A m c] 26
  have b1 := bel_alloc (w.alloc (.cells #[.int .i64 n, .slice A m c] 26)) (.cells #[.slice none 0 0, .slice none 0 0] 39)
  have CT := Lib.hid (Cs.new (w.alloc (.cells #[.int .i64 n, .slice A m c] 26)) [.slice none 0 0, .slice none 0 0] 39)
  rw [show (w.alloc (.cells #[.int .i64 n, .slice A m c] 26)).heap.size = w.heap.size + 1 by simp] at CT
  have n10 := ok.n10
  have OK := Lib.hid ok
  have H := Lib.hid h
  have B0 := Lib.hid (bel_trans b0 b1)
  have HC := Lib.hid (C0.below b1)
  have SZ := Lib.hid (show ((w.alloc (.cells #[.int .i64 n, .slice A m c] 26)).alloc (.cells #[.slice none 0 0, .slice none 0 0] 39)).heap.size = w.heap.size + 2 by simp)
  have y0 := HC.out.cell 0 rfl
  have y1 := HC.out.cell 1 rfl
  have V := Lib.hid (isArgument_any n (by omega) (by omega) a (es.map erow) A m c _ (h.below B0.out))
  rw [hv] at V
  have gl := grdM_lt ok
  have hs := shr_one (m := grdM n es) (i := a) (by omega) hb
  obtain ⟨gm, hgm⟩ : ∃ r, grdM n es = r := ⟨_, rfl⟩
  rw [hgm] at gl hs
  have HG := Lib.hid hgm
  have j0 : (0 : Int) ≤ (a : Int) := by omega
  have mn0 : min a 64 = a := by omega
  clear h C0 b0 b1 hv hb ok hgm
  go_enter Try.func31, Try.ntmps31
  go_wp2_with fail
  refine V.out.mono ?_
  rintro e w1 ⟨rfl, u1⟩
  have BT := Lib.hid (bel_trans B0.out u1)
  replace CT := Lib.hid (CT.out.below u1)
  have C1 := Lib.hid (HC.out.below u1)
  have z0 := C1.out.cell 0 rfl
  have z1 := C1.out.cell 1 rfl
  have SZ1 := Lib.hid (show w.heap.size + 2 ≤ w1.heap.size by have := u1.size; rw [SZ.out] at this; exact this)
  clear u1 V y0 y1
  go_wp2_with fail
  refine (grounded_ok n es OK.out A m c _ (H.out.below BT.out)).mono ?_
  rintro e w2 ⟨F, hF, rfl, u2⟩
  rw [grdM_eq OK.out hF, HG.out]
  replace BT := Lib.hid (bel_trans BT.out u2)
  replace CT := Lib.hid (CT.out.below u2)
  replace C1 := Lib.hid (C1.out.below u2)
  replace SZ1 := Lib.hid (Nat.le_trans SZ1.out u2.size)
  clear u2 z0 z1 hF F
  have q0 := C1.out.cell 0 rfl
  have q1 := C1.out.cell 1 rfl
  go_wp2_with fail
  refine (rounds_ok n es OK.out A m c _ (H.out.below BT.out)).mono ?_
  rintro e w3 ⟨A3, c3, F, rfl, o3, hF, u3⟩
  replace BT := Lib.hid (bel_trans BT.out u3)
  replace CT := Lib.hid (CT.out.below u3)
  replace C1 := Lib.hid (C1.out.below u3)
  replace SZ1 := Lib.hid (Nat.le_trans SZ1.out u3.size)
  obtain ⟨g3, rfl, g3l, g3u⟩ := o3.form (by omega)
  have E1 := Lib.hid (show lst n (rkF F a) = rkL n es a from lst_congr fun b hb => rkF_congr (rndF_eq OK.out hF) ha hb)
  have E2 := Lib.hid (rpL_eq OK.out hF ha)
  have FB := Lib.hid hF.bd
  have a3 := bel_alloc w3 (.cells #[.slice none 0 0, .slice none 0 0] 39)
  have S3 := Lib.hid (show SI (w3.alloc (.cells #[.slice none 0 0, .slice none 0 0] 39)) w.heap.size w3.heap.size none 0 0 (lst 0 (rkF F a)) none 0 0 [] from
    ⟨Cs.new w3 [.slice none 0 0, .slice none 0 0] 39, ownI_nil _ _, ownI_nil _ _, by simp [Value.ownBlock], by simp [Value.ownBlock], .inl rfl⟩)
  have O3 := Lib.hid (o3.below a3)
  have B3 := Lib.hid (bel_trans BT.out a3)
  have CT3 := Lib.hid (CT.out.below a3)
  have C3 := Lib.hid (C1.out.below a3)
  have HGU := Lib.hid g3u
  clear u3 q0 q1 hF o3 a3 g3l
  go_wp2_with fail
  go_loopw [33] (fun t wr => ∃ (k : Nat) (A1 : Option Addr) (c1 : Nat), k ≤ n ∧ t = .int .i64 k ∧ SI wr w.heap.size w3.heap.size A1 k c1 (lst k (rkF F a)) none 0 0 [] ∧ OwnI wr w2.heap.size (some ⟨g3, 0, none⟩) n c3 (lst n F) ∧ (Value.slice A1 k c1).ownBlock ≠ some g3 ∧ (Value.slice A1 k c1).ownBlock ≠ some w.heap.size ∧ (Value.slice A1 k c1).ownBlock ≠ some (w.heap.size + 1) ∧ Cs wr w.heap.size [.int .i64 n, .slice A m c] ∧ Cs wr (w.heap.size + 1) [.slice none 0 0, .slice none 0 0] ∧ Below w.heap.size w wr) (fun t _ => n - (intOf t).toNat)
  case atStart => exact ⟨0, none, 0, by omega, rfl, S3.out, O3.out, by simp [Value.ownBlock], by simp [Value.ownBlock], by simp [Value.ownBlock], C3.out, CT3.out, B3.out⟩
  case round =>
    obtain ⟨k, A1, c1, hk, rfl, s4, o4, x1, x2, x3, cc, ct, bb⟩ := hrel
    have S4 := Lib.hid s4
    have O4 := Lib.hid o4
    have CC := Lib.hid cc
    have CT4 := Lib.hid ct
    have B4 := Lib.hid bb
    have X1 := Lib.hid x1
    have X2 := Lib.hid x2
    have X3 := Lib.hid x3
    clear s4 o4 cc ct bb x1 x2 x3 S3 O3 B3 CT3 C3
    by_cases hlt : k < n
    · have hd := decide_eq_true (show (k : Int) < (n : Int) by omega)
      have k0 : (0 : Int) ≤ (k : Int) := by omega
      have k1 : (k : Int) < (n : Int) := by omega
      have a1 : (a : Int) < (n : Int) := by omega
      have ck := O4.out.cell (lst_at F hlt)
      have ca := O4.out.cell (lst_at F ha)
      have c0 := S4.out.cs.cell 0 rfl
      have hs4 := B4.out.size
      have bd := FB.out k hlt
      have LS := Lib.hid (show lst (k + 1) (rkF F a) = lst k (rkF F a) ++ [rkF F a k] from lst_succ k _)
      have RK : rkF F a k = if F a < F k ∨ F k < 0 then 0 else F k := rfl
      obtain ⟨r, hr⟩ : ∃ r, rkF F a k = r := ⟨_, rfl⟩
      rw [hr] at LS RK
      obtain ⟨z, hz⟩ : ∃ z, F k = z := ⟨_, rfl⟩
      obtain ⟨y, hy⟩ : ∃ y, F a = y := ⟨_, rfl⟩
      rw [hz] at ck RK bd
      rw [hy] at ca RK
      have rb1 : -9223372036854775808 ≤ r := by rw [RK]; split <;> omega
      have rb2 : r ≤ 9223372036854775807 := by rw [RK]; split <;> omega
      clear hr hz hy
      by_cases h1 : y < z
      · have hd1 := decide_eq_true h1
        obtain rfl : r = 0 := by rw [RK, if_pos (.inl h1)]
        clear RK
        have STEP := Lib.hid (fun A7 c7 w7 (p1 : OwnI w7 w.heap.size A7 (k + 1) c7 (lst k (rkF F a) ++ [0])) (p2 : wr.grownBy w7 (Value.slice A1 k c1).ownBlock) (p3 : NewBlk wr (.slice A1 k c1) (.slice A7 (k + 1) c7)) => strat_step n k a g3 w3.heap.size A1 c1 F w w2 wr c3 0 A m c S4.out O4.out X1.out X2.out X3.out CC.out CT4.out B4.out HGU.out SZ1.out p1 p2 p3)
        go_wp2_with (at_builtin; refine app_int_at wr rfl _ _ rfl w.heap.size A1 k c1 _ rfl S4.out.o1 0 rb1 rb2 rfl (by omega) hs4 ?_; intro A7 c7 w7 p1 p2 p3; obtain ⟨CQ, SN⟩ := STEP.out A7 c7 w7 p1 p2 p3; have S7 := Lib.hid SN; have c70 := CQ.cell 0 rfl; have f70 := CQ.free 0 rfl; clear p1 p2 p3 CQ SN)
        go_roundw
        case rel => exact ⟨k + 1, A7, c7, by omega, by go_num, by rw [LS.out]; exact S7.out⟩
        case measure => simp [intOf]; omega
      · have hd1 := decide_eq_false h1
        by_cases h2 : z < 0
        · have hd2 := decide_eq_true h2
          obtain rfl : r = 0 := by rw [RK, if_pos (.inr h2)]
          clear RK
          have STEP := Lib.hid (fun A7 c7 w7 (p1 : OwnI w7 w.heap.size A7 (k + 1) c7 (lst k (rkF F a) ++ [0])) (p2 : wr.grownBy w7 (Value.slice A1 k c1).ownBlock) (p3 : NewBlk wr (.slice A1 k c1) (.slice A7 (k + 1) c7)) => strat_step n k a g3 w3.heap.size A1 c1 F w w2 wr c3 0 A m c S4.out O4.out X1.out X2.out X3.out CC.out CT4.out B4.out HGU.out SZ1.out p1 p2 p3)
          go_wp2_with (at_builtin; refine app_int_at wr rfl _ _ rfl w.heap.size A1 k c1 _ rfl S4.out.o1 0 rb1 rb2 rfl (by omega) hs4 ?_; intro A7 c7 w7 p1 p2 p3; obtain ⟨CQ, SN⟩ := STEP.out A7 c7 w7 p1 p2 p3; have S7 := Lib.hid SN; have c70 := CQ.cell 0 rfl; have f70 := CQ.free 0 rfl; clear p1 p2 p3 CQ SN)
          go_roundw
          case rel => exact ⟨k + 1, A7, c7, by omega, by go_num, by rw [LS.out]; exact S7.out⟩
          case measure => simp [intOf]; omega
        · have hd2 := decide_eq_false h2
          obtain rfl : r = z := by rw [RK, if_neg (by omega)]
          clear RK
          have STEP := Lib.hid (fun A7 c7 w7 (p1 : OwnI w7 w.heap.size A7 (k + 1) c7 (lst k (rkF F a) ++ [r])) (p2 : wr.grownBy w7 (Value.slice A1 k c1).ownBlock) (p3 : NewBlk wr (.slice A1 k c1) (.slice A7 (k + 1) c7)) => strat_step n k a g3 w3.heap.size A1 c1 F w w2 wr c3 r A m c S4.out O4.out X1.out X2.out X3.out CC.out CT4.out B4.out HGU.out SZ1.out p1 p2 p3)
          go_wp2_with (at_builtin; refine app_int_at wr rfl _ _ rfl w.heap.size A1 k c1 _ rfl S4.out.o1 r rb1 rb2 rfl (by omega) hs4 ?_; intro A7 c7 w7 p1 p2 p3; obtain ⟨CQ, SN⟩ := STEP.out A7 c7 w7 p1 p2 p3; have S7 := Lib.hid SN; have c70 := CQ.cell 0 rfl; have f70 := CQ.free 0 rfl; clear p1 p2 p3 CQ SN)
          go_roundw
          case rel => exact ⟨k + 1, A7, c7, by omega, by go_num, by rw [LS.out]; exact S7.out⟩
          case measure => simp [intOf]; omega
    · obtain rfl : k = n := by omega
      have hd := decide_eq_false (show ¬ (k : Int) < (k : Int) by omega)
      have q0 := CC.out.cell 0 rfl
      have q1 := CC.out.cell 1 rfl
      go_wp2_with fail
      refine (attackers_ok k es OK.out A m c _ (H.out.below B4.out)).mono ?_
      rintro e w5 ⟨A5, c5, rfl, n5, u5⟩
      have N5 := Lib.hid n5
      have S5 := Lib.hid (S4.out.below u5)
      have CT5 := Lib.hid (CT4.out.below u5)
      have B5 := Lib.hid (bel_trans B4.out u5)
      have GLT := Lib.hid S4.out.cs.1
      have EE1 := Lib.hid E1.out
      clear q0 q1 n5 u5 S4 O4 CC CT4 B4 X1 X2
      go_wp2_with fail
      have NG := Lib.hid (show (Value.slice A5 k c5).ownBlock ≠ some w3.heap.size from fun e => by have h1 := (N5.out.block _ e).1; have h2 := GLT.out; omega)
      have N6 := Lib.hid (N5.out.mono (b2 := 0) (Nat.zero_le _))
      clear N5 E1 FB
      go_loopw [57] (fun t wr => ∃ (j : Nat) (A2 : Option Addr) (c2 : Nat), j ≤ k ∧ t = .int .i64 j ∧ SI wr w.heap.size w3.heap.size A1 k c1 (lst k (rkF F a)) A2 j c2 (lst j (fun b => rp (attM es b) (rkF F a) k)) ∧ OwnN wr 0 A5 k c5 (attL k es) ∧ (Value.slice A2 j c2).ownBlock ≠ some (w.heap.size + 1) ∧ Cs wr (w.heap.size + 1) [.slice none 0 0, .slice none 0 0] ∧ Below w.heap.size w wr) (fun t _ => k - (intOf t).toNat)
      case atStart => exact ⟨0, none, 0, by omega, rfl, S5.out, N6.out, by simp [Value.ownBlock], CT5.out, B5.out⟩
      case round =>
        obtain ⟨j, A2, c2, hj, rfl, s6, n6, x6, ct6, b6⟩ := hrel
        have S6 := Lib.hid s6
        have N7 := Lib.hid n6
        have X6 := Lib.hid x6
        have CT6 := Lib.hid ct6
        have B6 := Lib.hid b6
        clear s6 n6 x6 ct6 b6 S5 N6 CT5 B5
        by_cases hlt : j < k
        · obtain ⟨gA, e5, _, _⟩ := N7.out.form (by omega)
          subst e5
          have qa := N7.out.cell (attL_at es hlt)
          have hyb := attM_lt (n := k) (es := es) (fun q hq => (OK.out.inn q hq).1) j
          have hyb10 := pow10 n10 hyb
          have hd := decide_eq_true (show (j : Int) < (k : Int) by omega)
          have j0' : (0 : Int) ≤ (j : Int) := by omega
          have j1' : (j : Int) < (k : Int) := by omega
          have RS := Lib.hid (show lst (j + 1) (fun b => rp (attM es b) (rkF F a) k) = lst j (fun b => rp (attM es b) (rkF F a) k) ++ [rp (attM es j) (rkF F a) k] from lst_succ j _)
          obtain ⟨yb, hy⟩ : ∃ r, attM es j = r := ⟨_, rfl⟩
          rw [hy] at qa hyb hyb10 RS
          have RE := Lib.hid (show (bitsTo yb 10).foldl (rpf (rkF F a)) (-1) = rp yb (rkF F a) k from rp_end (rkF F a) n10 hyb)
          have BM := Lib.hid (fun x (hx : x ∈ bitsTo yb 10) => (by obtain ⟨q, rfl, _, h2⟩ := bitsTo_mem.1 hx; exact ⟨q, rfl, bit_lt hyb h2⟩ : ∃ q : Nat, x = q ∧ q < k))
          have bl := bitsTo_len yb 10
          clear hy hyb
          go_wp2_with fail
          refine (setOf_any yb hyb10 _).mono ?_
          rintro e w6 ⟨A6, c6, rfl, o6, u6⟩
          obtain ⟨bs, hbs⟩ : ∃ b, bitsTo yb 10 = b := ⟨_, rfl⟩
          rw [hbs] at RE BM bl o6 ⊢
          have I6 := Lib.hid o6.ints
          have S8 := Lib.hid (S6.out.below u6)
          have N8 := Lib.hid (N7.out.below u6)
          have CT8 := Lib.hid (CT6.out.below u6)
          have B7 := Lib.hid (bel_trans B6.out u6)
          clear o6 u6 hbs qa S6 N7 CT6 B6
          go_wp2_with fail
          go_loopw [12, 64] (fun o t wr => ∃ i : Nat, i ≤ bs.length ∧ t = .int .i64 i ∧ o = .int .i64 ((bs.take i).foldl (rpf (rkF F a)) (-1)) ∧ Below w6.heap.size w6 wr) (fun _ t _ => bs.length - (intOf t).toNat)
          case atStart => exact ⟨0, Nat.zero_le _, rfl, rfl, Below.refl _ _⟩
          case round =>
            obtain ⟨i, hi, rfl, rfl, b8⟩ := hrel
            have B8 := Lib.hid b8
            clear b8
            have RG := rpf_range (rkF F a) (bs.take i) (-1) (fun x hx => BM.out x (List.mem_of_mem_take hx)) (.inl rfl)
            by_cases hlti : i < bs.length
            · obtain ⟨b, off, x, rfl, _, hx, _, _, hz⟩ := (I6.out.below B8.out).at hlti
              obtain ⟨q, rfl, hq⟩ := BM.out x (mem_of_at hz.out)
              have FN := Lib.hid (show (bs.take (i + 1)).foldl (rpf (rkF F a)) (-1) = rpf (rkF F a) ((bs.take i).foldl (rpf (rkF F a)) (-1)) (q : Int) by rw [take_snoc' hz.out, List.foldl_append]; rfl)
              obtain ⟨gR, eR, _, _⟩ := S8.out.o1.form (by omega)
              have SR := S8.out.below B8.out
              have c0 := SR.cs.cell 0 rfl
              have rq := SR.o1
              rw [eR] at c0 rq
              have cq := rq.cell (lst_at (rkF F a) hq)
              have hdi := decide_eq_true (show (i : Int) < (bs.length : Int) by omega)
              have i0 : (0 : Int) ≤ (i : Int) := by omega
              have i1 : (i : Int) < (bs.length : Int) := by omega
              have q0 : (0 : Int) ≤ (q : Int) := by omega
              have q1 : (q : Int) < (k : Int) := by omega
              obtain ⟨o, ho⟩ : ∃ o, (bs.take i).foldl (rpf (rkF F a)) (-1) = o := ⟨_, rfl⟩
              rw [ho] at RG FN ⊢
              rw [rpf_def] at FN
              rw [Int.toNat_natCast] at FN
              rcases RG with rfl | ⟨p, rfl, hp⟩
              · obtain ⟨r, hr⟩ : ∃ r, rkF F a q = r := ⟨_, rfl⟩
                rw [hr] at cq FN
                clear hz ho SR rq
                by_cases h0 : r = 0
                · have hne : (r != 0) = false := by simp [h0]
                  replace FN := Lib.hid (FN.out.trans (if_neg (fun hh => hh.1 h0)))
                  clear h0 hr
                  go_wp2_with fail
                  go_quiet (fail)
                  go_wp2_with fail
                  go_roundw
                  case rel => exact ⟨i + 1, by omega, by go_num, by rw [FN.out], below_drewN B8.out _⟩
                  case measure => simp [intOf]; omega
                · have hne : (r != 0) = true := by simp [h0]
                  replace FN := Lib.hid (FN.out.trans (if_pos ⟨h0, .inl (by omega)⟩))
                  clear h0 hr
                  go_wp2_with fail
                  go_quiet (fail)
                  go_wp2_with fail
                  go_roundw
                  case rel => exact ⟨i + 1, by omega, by go_num, by rw [FN.out], below_drewN B8.out _⟩
                  case measure => simp [intOf]; omega
              · rw [Int.toNat_natCast] at FN
                have cp := rq.cell (lst_at (rkF F a) hp)
                have p0 : (0 : Int) ≤ (p : Int) := by omega
                have p1 : (p : Int) < (k : Int) := by omega
                obtain ⟨r, hr⟩ : ∃ r, rkF F a q = r := ⟨_, rfl⟩
                obtain ⟨s, hs⟩ : ∃ r, rkF F a p = r := ⟨_, rfl⟩
                rw [hr] at cq FN
                rw [hs] at cp FN
                have hlz := decide_eq_false (show ¬ (p : Int) < 0 by omega)
                clear hz ho SR rq
                by_cases h0 : r = 0
                · have hne : (r != 0) = false := by simp [h0]
                  replace FN := Lib.hid (FN.out.trans (if_neg (fun hh => hh.1 h0)))
                  clear h0 hr hs
                  go_wp2_with fail
                  go_quiet (fail)
                  go_wp2_with fail
                  go_roundw
                  case rel => exact ⟨i + 1, by omega, by go_num, by rw [FN.out], below_drewN B8.out _⟩
                  case measure => simp [intOf]; omega
                · have hne : (r != 0) = true := by simp [h0]
                  by_cases h1 : r < s
                  · have hd1 := decide_eq_true h1
                    replace FN := Lib.hid (FN.out.trans (if_pos ⟨h0, .inr h1⟩))
                    clear h0 hr hs
                    go_wp2_with fail
                    go_quiet (fail)
                    go_wp2_with fail
                    go_roundw
                    case rel => exact ⟨i + 1, by omega, by go_num, by rw [FN.out], below_drewN B8.out _⟩
                    case measure => simp [intOf]; omega
                  · have hd1 := decide_eq_false h1
                    replace FN := Lib.hid (FN.out.trans (if_neg (fun hh => by rcases hh.2 with hh2 | hh2; omega; exact h1 hh2)))
                    clear h0 hr hs
                    go_wp2_with fail
                    go_quiet (fail)
                    go_wp2_with fail
                    go_roundw
                    case rel => exact ⟨i + 1, by omega, by go_num, by rw [FN.out], below_drewN B8.out _⟩
                    case measure => simp [intOf]; omega
            · obtain rfl : i = bs.length := by omega
              have hdi := decide_eq_false (show ¬ (bs.length : Int) < (bs.length : Int) by omega)
              rw [List.take_length] at RG ⊢
              rw [RE.out] at RG ⊢
              obtain ⟨o, ho⟩ : ∃ o, rp yb (rkF F a) k = o := ⟨_, rfl⟩
              rw [ho] at RG RS ⊢
              have o0 : -9223372036854775808 ≤ o := by rcases RG with rfl | ⟨p, rfl, hp⟩ <;> omega
              have o1 : o ≤ 9223372036854775807 := by rcases RG with rfl | ⟨p, rfl, hp⟩ <;> omega
              have S9 := Lib.hid (S8.out.below B8.out)
              have N9 := Lib.hid (N8.out.below B8.out)
              have CT9 := Lib.hid (CT8.out.below B8.out)
              have B9 := Lib.hid (bel_trans B7.out B8.out)
              have hs9 := B9.out.size
              have c1' := S9.out.cs.cell 1 rfl
              have STEP := Lib.hid (fun A7 c7 w7 p1 p2 p3 => strat_step2 k j w3.heap.size A1 c1 A2 c2 (lst k (rkF F a)) (lst j (fun b => rp (attM es b) (rkF F a) k)) w wr (some ⟨gA, 0, none⟩) c5 (attL k es) o S9.out N9.out NG.out X6.out CT9.out B9.out SZ1.out (A7 := A7) (c7 := c7) (w7 := w7) p1 p2 p3)
              clear ho RG
              go_wp2_with (at_builtin; refine app_int_at wr rfl _ _ rfl w.heap.size A2 j c2 _ rfl S9.out.o2 o o0 o1 rfl (by omega) hs9 ?_; intro A7 c7 w7 p1 p2 p3; obtain ⟨CQ, SN⟩ := STEP.out A7 c7 w7 p1 p2 p3; have S10 := Lib.hid SN; have c71 := CQ.cell 1 rfl; have f71 := CQ.free 1 rfl; clear p1 p2 p3 CQ SN)
              go_roundw
              case rel => exact ⟨j + 1, A7, c7, by omega, by go_num, by rw [RS.out]; exact S10.out.1, S10.out.2.1, S10.out.2.2.1, S10.out.2.2.2.1, S10.out.2.2.2.2⟩
              case measure => simp [intOf]; omega
        · obtain rfl : j = k := by omega
          have hd := decide_eq_false (show ¬ (j : Int) < (j : Int) by omega)
          have s0 := S6.out.cs.cell 0 rfl
          have s1 := S6.out.cs.cell 1 rfl
          have f0 := CT6.out.free 0 rfl
          have f1 := CT6.out.free 1 rfl
          have p0 := CT6.out.cell 0 rfl
          have p1 := CT6.out.cell 1 rfl
          have K2 := Lib.hid ((CT6.out.set 0 (.slice A1 j c1) (by simp)).set 1 (.slice A2 j c2) (by simp))
          have BE := Lib.hid ((B6.out.setCell (p := ⟨w.heap.size + 1, 0, none⟩) (by simp) (.slice A1 j c1)).setCell (p := ⟨w.heap.size + 1, 1, none⟩) (by simp) (.slice A2 j c2))
          have OE1 := Lib.hid ((S6.out.o1.aside X3.out 0 (.slice A1 j c1)).aside X3.out 1 (.slice A2 j c2))
          have OE2 := Lib.hid ((S6.out.o2.aside X6.out 0 (.slice A1 j c1)).aside X6.out 1 (.slice A2 j c2))
          have AP := Lib.hid S6.out.ap
          go_wp2_with fail
          have r0 := K2.out.cell 0 (v := .slice A1 j c1) (by simp)
          have r1 := K2.out.cell 1 (v := .slice A2 j c2) (by simp)
          exact bodyPost_ret (v := .tuple #[.agg #[.slice A1 j c1, .slice A2 j c2], .bool true]) (by simp [results, Try.results31, go_sem, r0, r1]) rfl (givesT_lst EE1.out E2.out OE1.out OE2.out AP.out BE.out)
end Go.Proofs.Yteejfjgofpolkaa
