/- Drawn patches that may be none; acts of the call's own. -/
import Derived.Test.YtcoladhppbknnaaAc5
namespace Go.Proofs.Ytcoladhppbknnaa
set_option linter.unusedVariables false
set_option linter.unusedSimpArgs false
set_option maxRecDepth 100000
open Go.RowKit Go.Deep
theorem gr_app {a b c : World} {row r2 : Option Nat} (h : a.grownBy b row) (k : b.grownBy c r2) (hr : ∀ x, r2 = some x → a.heap.size ≤ x) : a.grownBy c row :=
  ⟨k.os.trans h.os, k.tape.trans h.tape, k.output.trans h.output, Nat.le_trans h.size k.size, fun i hi hne => (k.block i (Nat.lt_of_lt_of_le hi h.size) (fun e => by have := hr i e.symm; omega)).trans (h.block i hi hne)⟩
theorem gr_bel {a b c : World} {row : Option Nat} (h : a.grownBy b row) (k : Below b.heap.size b c) : a.grownBy c row :=
  gr_app (r2 := none) h ⟨k.os, k.tape, k.output, k.size, fun i hi _ => k.block i hi⟩ (by simp)
theorem gr_set {a b : World} {row : Option Nat} (h : a.grownBy b row) {g : Nat} (hg : a.heap.size ≤ g) (j : Nat) (u : Value) : a.grownBy (b.setCell ⟨g, j, none⟩ u) row :=
  gr_app h (grown_set b g j u) (fun x hx => by injection hx with hx; omega)
/-- Patches of which no edit has the number 98. -/
def P98 (p : List Ed) : Prop := ∀ e ∈ p, EdOk e ∧ e.id ≠ 98
theorem PD.p98 {p : List Ed} (h : PD p) : P98 p := fun e he => ⟨h.ok.ok e he, by have := h.ids e he; omega⟩
def DrawnP (g : Nat) (An : Option Addr) (nn cn : Nat) (bs : List Int) (k : Nat) (w : World) (e : Ending) (w' : World) : Prop :=
  ∃ (p : List Ed) (O : Option Addr) (L oc k' : Nat), e = .returned (.slice O L oc) ∧ P98 p ∧ EdsO w' w.heap.size O L oc p ∧ k' ≤ k + 500 ∧ Src w' g An nn cn bs k' ∧ w.grownBy w' (some g)
def olds4 : List Value := [.string ⟨#[]⟩, .string ⟨#[97]⟩, .string ⟨#[98]⟩, .string ⟨#[32, 97]⟩]
def news4 : List Value := [.string ⟨#[]⟩, .string ⟨#[97]⟩, .string ⟨#[98]⟩, .string ⟨#[65]⟩]
theorem olds4_at : ∀ j, j < 4 → ∃ t, olds4[j]? = some (.string t) ∧ t.size ≤ 9
  | 0, _ => ⟨_, rfl, by decide⟩
  | 1, _ => ⟨_, rfl, by decide⟩
  | 2, _ => ⟨_, rfl, by decide⟩
  | 3, _ => ⟨_, rfl, by decide⟩
  | n + 4, h => absurd h (by omega)
theorem news4_at : ∀ j, j < 4 → ∃ t, news4[j]? = some (.string t) ∧ t.size ≤ 9
  | 0, _ => ⟨_, rfl, by decide⟩
  | 1, _ => ⟨_, rfl, by decide⟩
  | 2, _ => ⟨_, rfl, by decide⟩
  | 3, _ => ⟨_, rfl, by decide⟩
  | n + 4, h => absurd h (by omega)
set_option maxHeartbeats 4000000 in
theorem l07DrawPatch_any (g : Nat) (An : Option Addr) (nn cn : Nat) (bs : List Int) (k : Nat) (hk : k ≤ 900000) (tb : Nat) (A : Option Addr) (n c : Nat) (t : List Ar) (w : World) (h : Src w g An nn cn bs k) (ht : ArsO w tb A n c t) (hts : SOk t) (htb : g < tb) :
    Calls Try.prog 117 #[.pointer (some ⟨g, 0, none⟩), .slice A n c] w (DrawnP g An nn cn bs k w) := by
  have gl := h.lt
  have DF := Lib.hid (l07DrawFor_any g An nn cn bs k (by omega) tb A n c t w h ht hts htb)
  clear h ht
  go_enter Try.func117, Try.ntmps117
  go_wp2_with fail
  refine DF.out.mono ?_
  rintro e w1 ⟨p, O, L, oc, k1, rfl, hpd, hp, _, hk1, hs1, hg1⟩
  have sz1 := hg1.size
  have PP := Lib.hid hpd
  have P1 := Lib.hid hp
  have S1 := Lib.hid hs1
  have G1 := Lib.hid hg1
  have L16 : L ≤ 16 := by have := hpd.len; have := hp.len; omega
  clear hpd hp hs1 hg1 DF
  go_wp2_with fail
  refine (one_any 14 g An nn cn bs k1 _ S1.out (by omega) (by omega) (by omega)).mono ?_
  rintro e w2 ⟨q, k2, rfl, k20, k21, hs2, hg2⟩
  have P2 := Lib.hid (show EdsO w2 w.heap.size O L oc p from P1.out.kept hg2 (ne_lt' (fun x hx => (P1.out.block x hx).1) gl))
  have S2 := Lib.hid hs2
  have G2 := Lib.hid (grown_trans G1.out hg2)
  clear hs2 hg2 P1 S1 G1
  cases q
  · go_wp2_with fail
    go_ret
    exact ⟨p, O, L, oc, k2, rfl, PP.out.p98, P2.out, by omega, S2.out, G2.out⟩
  go_wp2_with fail
  refine (pick_any 5 g An nn cn bs k2 _ S2.out (by omega) (by omega) (by omega)).mono ?_
  rintro e w3 ⟨r, k3, rfl, hr, k30, k31, hs3, hg3⟩
  obtain ⟨r0, r1⟩ := hr.lt (by omega)
  have b3 := bel_alloc w3 (.cells (vals [0, 1, 17, 99, 100]).toArray 2)
  have P3 := Lib.hid (show EdsO _ w.heap.size O L oc p from OwnR.below (P2.out.kept hg3 (ne_lt' (fun x hx => (P2.out.block x hx).1) gl)) b3)
  have S3 := Lib.hid (hs3.kept b3)
  have G3 := Lib.hid (grown_trans (grown_trans G2.out hg3) (World.grownBy_alloc _ (.cells (vals [0, 1, 17, 99, 100]).toArray 2) (some g)))
  have I3 := Lib.hid (ownI_lits w3 [0, 1, 17, 99, 100] (by decide) (by decide)).ints
  have gl3 : g < w3.heap.size := hs3.lt
  clear hr hs3 hg3 P2 S2 G2 b3
  go_wp2_with fail
  refine Calls.mono (show Calls Try.prog _ _ _ _ from among_any (some ⟨w3.heap.size, 0, none⟩) 5 5 [0, 1, 17, 99, 100] (fun z => 0 ≤ z ∧ z ≤ 100 ∧ z ≠ 98) g An nn cn bs k3 _ S3.out (by omega) I3.out (by omega) (by intro a ha; injection ha with ha; subst ha; show w3.heap.size ≠ g; omega) (by intro z hz; simp at hz; omega)) ?_
  rintro e w4 ⟨z, k4, rfl, hz, k40, k41, hs4, hg4⟩
  have b4 := bel_alloc w4 (.cells olds4.toArray 9)
  have P4 := Lib.hid (show EdsO _ w.heap.size O L oc p from OwnR.below (P3.out.kept hg4 (ne_lt' (fun x hx => (P3.out.block x hx).1) gl)) b4)
  have S4 := Lib.hid (hs4.kept b4)
  have G4 := Lib.hid (grown_trans (grown_trans G3.out hg4) (World.grownBy_alloc _ (.cells olds4.toArray 9) (some g)))
  have gl4 : g < w4.heap.size := hs4.lt
  have C4 := Lib.hid (Cs.new w4 olds4 9)
  clear hs4 hg4 P3 S3 G3 I3 b4
  go_wp2_with fail
  refine Calls.mono (show Calls Try.prog _ _ _ _ from text_any w4.heap.size 4 (fun t => t.size ≤ 9) g An nn cn bs k4 (w4.alloc (.cells olds4.toArray 9)) S4.out (by omega) (by omega) (by omega) (by simp) (by omega) (fun j hj => by
    obtain ⟨t, ht, hp⟩ := olds4_at j hj
    exact ⟨t, C4.out.cell j ht, hp⟩)) ?_
  rintro e w5 ⟨t1, k5, rfl, hp5, k50, k51, hs5, hg5⟩
  have b5 := bel_alloc w5 (.cells news4.toArray 9)
  have P5 := Lib.hid (show EdsO _ w.heap.size O L oc p from OwnR.below (P4.out.kept hg5 (ne_lt' (fun x hx => (P4.out.block x hx).1) gl)) b5)
  have S5 := Lib.hid (hs5.kept b5)
  have G5 := Lib.hid (grown_trans (grown_trans G4.out hg5) (World.grownBy_alloc _ (.cells news4.toArray 9) (some g)))
  have gl5 : g < w5.heap.size := hs5.lt
  have C5 := Lib.hid (Cs.new w5 news4 9)
  clear hs5 hg5 P4 S4 G4 C4 b5
  go_wp2_with fail
  refine Calls.mono (show Calls Try.prog _ _ _ _ from text_any w5.heap.size 4 (fun t => t.size ≤ 9) g An nn cn bs k5 (w5.alloc (.cells news4.toArray 9)) S5.out (by omega) (by omega) (by omega) (by simp) (by omega) (fun j hj => by
    obtain ⟨t, ht, hp⟩ := news4_at j hj
    exact ⟨t, C5.out.cell j ht, hp⟩)) ?_
  rintro e w6 ⟨t2, k6, rfl, hp6, k60, k61, hs6, hg6⟩
  have b6 := bel_alloc w6 (.cells #[.int .i64 r, .int .i64 z, .string t1, .string t2] 74)
  have P6 := Lib.hid (show EdsO _ w.heap.size O L oc p from OwnR.below (P5.out.kept hg6 (ne_lt' (fun x hx => (P5.out.block x hx).1) gl)) b6)
  have S6 := Lib.hid (hs6.kept b6)
  have G6 := Lib.hid (grown_trans (grown_trans G5.out hg6) (World.grownBy_alloc _ (.cells #[.int .i64 r, .int .i64 z, .string t1, .string t2] 74) (some g)))
  have gl6 : g < w6.heap.size := hs6.lt
  have CC := Cs.new w6 [.int .i64 r, .int .i64 z, .string t1, .string t2] 74
  have y0 := CC.cell 0 rfl
  have y1 := CC.cell 1 rfl
  have y2 := CC.cell 2 rfl
  have y3 := CC.cell 3 rfl
  have EOK : EdOk ⟨r, z, t1, t2⟩ := ⟨by show I64 r; unfold I64; omega, by show I64 z; unfold I64; omega, by show t1.size ≤ _; omega, by show t2.size ≤ _; omega⟩
  have PX : P98 (p ++ [⟨r, z, t1, t2⟩]) := fun e he => by
    rcases List.mem_append.1 he with he | he
    · exact PP.out.p98 e he
    · rw [List.mem_singleton] at he; subst he; exact ⟨EOK, hz.2.2⟩
  have PX' := Lib.hid PX
  have szw : w.heap.size ≤ (w6.alloc (.cells #[.int .i64 r, .int .i64 z, .string t1, .string t2] 74)).heap.size := G6.out.size
  clear hs6 hg6 P5 S5 G5 C5 b6 CC EOK PX PP
  go_upto_region 5 with fail
  obtain ⟨w7, hw7⟩ : ∃ x, w6.alloc (.cells #[.int .i64 r, .int .i64 z, .string t1, .string t2] 74) = x := ⟨_, rfl⟩
  rw [show [Value.int .i64 r, .int .i64 z, .string t1, .string t2].toArray = #[.int .i64 r, .int .i64 z, .string t1, .string t2] from rfl] at y0 y1 y2 y3
  rw [hw7] at P6 S6 G6 szw y0 y1 y2 y3
  rw [hw7]
  clear hw7
  go_wp2_with (at_builtin; refine app_ed1 w7 rfl _ _ rfl w.heap.size O L oc _ rfl P6.out ⟨r, z, t1, t2⟩ rfl (by omega) szw ?_; intro A' c' w10 p1 p2; have Q1 := Lib.hid p1; have Q2 := Lib.hid p2; clear p1 p2)
  go_ret
  exact ⟨_, A', L + 1, c', k6, rfl, PX'.out, Q1.out, by omega, S6.out.grown Q2.out (fun x hx => by have := (OwnR.block P6.out x hx).1; omega), gr_app G6.out Q2.out (fun x hx => (OwnR.block P6.out x hx).1)⟩
end Go.Proofs.Ytcoladhppbknnaa
