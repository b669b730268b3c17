/- Proving a bit: the plain law (the other mark is divided alike by both sides). -/
import Derived.Test.YtnjnngnagdhaiaaProof3
import Derived.Test.YtnjnngnagdhaiaaFrac
import Derived.Test.YtnjnngnagdhaiaaMat
import Derived.Deep.RegionWith
import Derived.Deep.DeepCutAuto
import Derived.Deep.RegionHeld3
namespace Go.Proofs.Ytnjnngnagdhaiaa
set_option linter.unusedVariables false
open Go.RowKit
theorem open_order {s : Int} (h : pw s 500000003 = 1) (bit : Int) : pw (openO s bit) 500000003 = 1 := by
  unfold openO
  split
  · exact h
  · rw [pw_mul, h]
    unfold inv4
    rw [pw_pow, Nat.mul_comm, ← pw_pow, order4, pw_one]
    decide
theorem prove_back {x : Int} (hx : pw x 500000003 = 1) (n : Nat) (hn : n ≤ 500000002) : pw (pw x n) 1000000005 = pw x ((500000003 - n) % 500000003) := by
  rw [pw_pow, ← pw_mod hx (n * 1000000005)]
  congr 1
  omega
/-- The proof that one makes: the marks, the challenges, the answers. -/
def otherM (s bit n1 n2 : Int) : Int := mm (pw 9 n2.toNat) (pw (openO s (1 - bit)) ((500000003 - n1) % 500000003).toNat)
theorem otherM_impl {bit key n1 n2 : Int} (h0 : 0 ≤ n1) (h1 : n1 ≤ 500000002) :
    mm (pw 9 n2.toNat) (pw (pw (openO (sealO bit key) (1 - bit)) n1.toNat) 1000000005) = otherM (sealO bit key) bit n1 n2 := by
  unfold otherM
  rw [prove_back (open_order (sealO_order bit key) _) n1.toNat (by omega)]
  congr 2
  omega
def ownC (sum n1 : Int) : Int := (sum - n1 + 500000003) % 500000003
def ownA (c n0 key : Int) : Int := (n0 + c * key) % 500000003
/-- Two numbers in the order of the bit. -/
def two (bit own other : Int) : List Int := if bit = 0 then [own, other] else [other, own]
def prM (bit key : Int) (zs : List Int) : List Int := two bit (pw 9 (zs.getD 0 0).toNat) (otherM (sealO bit key) bit (zs.getD 1 0) (zs.getD 2 0))
def prS (bit key : Int) (zs : List Int) : Int := chal (sealO bit key :: prM bit key zs)
def prC (bit key : Int) (zs : List Int) : List Int := two bit (ownC (prS bit key zs) (zs.getD 1 0)) (zs.getD 1 0)
def prA (bit key : Int) (zs : List Int) : List Int := two bit (ownA (ownC (prS bit key zs) (zs.getD 1 0)) (zs.getD 0 0) key) (zs.getD 2 0)
def prB (bit key : Int) (zs : List Int) : Bool := inR bit 0 1 && expB key && allB zs 3 expB
theorem two_length (b x y : Int) : (two b x y).length = 2 := by unfold two; split <;> rfl

/-- Three rows of the call's own, each leading to a block of its own. -/
def GivesBP (ms cs as_ : List Int) (b : Bool) (w : World) (e : Ending) (w' : World) : Prop :=
  ∃ A c B d C f, e = .returned (.tuple #[.agg #[.slice A ms.length c, .slice B cs.length d, .slice C as_.length f], .bool b]) ∧
    OwnI w' w.heap.size A ms.length c ms ∧ OwnI w' w.heap.size B cs.length d cs ∧ OwnI w' w.heap.size C as_.length f as_ ∧
    (Apart (.slice A ms.length c) (.slice B cs.length d) ∧ Apart (.slice A ms.length c) (.slice C as_.length f) ∧ Apart (.slice B cs.length d) (.slice C as_.length f)) ∧ Below w.heap.size w w'
theorem givesBP_no (w w' : World) (hb : Below w.heap.size w w') : GivesBP [] [] [] false w (.returned (.tuple #[.agg #[.slice none 0 0, .slice none 0 0, .slice none 0 0], .bool false])) w' :=
  ⟨none, 0, none, 0, none, 0, rfl, ownI_nil _ _, ownI_nil _ _, ownI_nil _ _, ⟨.inl rfl, .inl rfl, .inl rfl⟩, hb⟩

theorem cs_new {w : World} {n : Nat} (l : List Value) (t : TypeId) (h : w.heap.size = n) : Cs (w.alloc (.cells l.toArray t)) n l := h ▸ Cs.new w l t
theorem own_new {w : World} {B n : Nat} (h : w.heap.size = n) (hB : B ≤ n) : OwnI (w.alloc (.cells #[.int .i64 0, .int .i64 0] 2)) B (some ⟨n, 0, none⟩) 2 2 [0, 0] := by
  subst h
  exact ⟨by simpa [vals] using World.ownsRow_lit (base := B) (e := 2) (size := 1) w #[.int .i64 0, .int .i64 0] 2 hB (by unfold maxLen; omega) rfl, by intro z hz; simp at hz; subst hz; exact WalkArith.wf_i64 (by omega)⟩
theorem OwnI.drew {w : World} {base : Nat} {A : Option Addr} {n c : Nat} {zs : List Int} (h : OwnI w base A n c zs) : OwnI w.drew base A n c zs := h
theorem OwnI.alloc {w : World} {base : Nat} {A : Option Addr} {n c : Nat} {zs : List Int} (h : OwnI w base A n c zs) (o : Obj) : OwnI (w.alloc o) base A n c zs := h.below (bel_alloc _ _)
theorem cs4_0 (w : World) (l : List Value) (t : TypeId) (o1 o2 o3 : Obj) : Cs ((((w.alloc (.cells l.toArray t)).alloc o1).alloc o2).alloc o3).drew w.heap.size l := ((((Cs.new w l t).alloc o1).alloc o2).alloc o3).drew
theorem cs4_1 (w : World) (l : List Value) (t : TypeId) (o0 o2 o3 : Obj) : Cs ((((w.alloc o0).alloc (.cells l.toArray t)).alloc o2).alloc o3).drew (w.heap.size + 1) l := (((cs_new (w := w.alloc o0) l t (by simp)).alloc o2).alloc o3).drew
theorem cs4_2 (w : World) (l : List Value) (t : TypeId) (o0 o1 o3 : Obj) : Cs ((((w.alloc o0).alloc o1).alloc (.cells l.toArray t)).alloc o3).drew (w.heap.size + 1 + 1) l := ((cs_new (w := (w.alloc o0).alloc o1) l t (by simp)).alloc o3).drew
theorem cs4_3 (w : World) (l : List Value) (t : TypeId) (o0 o1 o2 : Obj) : Cs ((((w.alloc o0).alloc o1).alloc o2).alloc (.cells l.toArray t)).drew (w.heap.size + 1 + 1 + 1) l := (cs_new (w := ((w.alloc o0).alloc o1).alloc o2) l t (by simp)).drew
theorem own4_0 (w : World) (o1 o2 o3 : Obj) : OwnI ((((w.alloc (.cells #[.int .i64 0, .int .i64 0] 2)).alloc o1).alloc o2).alloc o3).drew w.heap.size (some ⟨w.heap.size, 0, none⟩) 2 2 [0, 0] := ((((own_new rfl (Nat.le_refl _)).alloc o1).alloc o2).alloc o3).drew
theorem own4_1 (w : World) (o0 o2 o3 : Obj) : OwnI ((((w.alloc o0).alloc (.cells #[.int .i64 0, .int .i64 0] 2)).alloc o2).alloc o3).drew w.heap.size (some ⟨w.heap.size + 1, 0, none⟩) 2 2 [0, 0] := (((own_new (w := w.alloc o0) (by simp) (by omega)).alloc o2).alloc o3).drew
theorem own4_2 (w : World) (o0 o1 o3 : Obj) : OwnI ((((w.alloc o0).alloc o1).alloc (.cells #[.int .i64 0, .int .i64 0] 2)).alloc o3).drew w.heap.size (some ⟨w.heap.size + 1 + 1, 0, none⟩) 2 2 [0, 0] := ((own_new (w := (w.alloc o0).alloc o1) (by simp) (by omega)).alloc o3).drew
theorem own4_3 (w : World) (o0 o1 o2 : Obj) : OwnI ((((w.alloc o0).alloc o1).alloc o2).alloc (.cells #[.int .i64 0, .int .i64 0] 2)).drew w.heap.size (some ⟨w.heap.size + 1 + 1 + 1, 0, none⟩) 2 2 [0, 0] := (own_new (w := ((w.alloc o0).alloc o1).alloc o2) (by simp) (by omega)).drew
theorem bel4 (w : World) (o0 o1 o2 o3 : Obj) : Below w.heap.size w ((((w.alloc o0).alloc o1).alloc o2).alloc o3).drew := (bel_trans (bel_alloc _ o0) (bel_trans (bel_alloc _ o1) (bel_trans (bel_alloc _ o2) (bel_alloc _ o3)))).drew
/-- What a prover of a bit holds: the result's block, a proof of three rows, and the nonces. -/
structure PV (w : World) (B r g a b c : Nat) (la lb lc : List Int) (k o : Nat) (n0 n1 n2 : Int) : Prop where
  cr : Cs w r [.slice none 0 0, .slice none 0 0, .slice none 0 0]
  cg : Cs w g [.slice (some ⟨a, 0, none⟩) 2 2, .slice (some ⟨b, 0, none⟩) 2 2, .slice (some ⟨c, 0, none⟩) 2 2]
  oa : OwnI w B (some ⟨a, 0, none⟩) 2 2 la
  ob : OwnI w B (some ⟨b, 0, none⟩) 2 2 lb
  oc : OwnI w B (some ⟨c, 0, none⟩) 2 2 lc
  y0 : w.cell? ⟨k, o, none⟩ = some (.int .i64 n0)
  y1 : w.cell? ⟨k, o + 1, none⟩ = some (.int .i64 n1)
  y2 : w.cell? ⟨k, o + 2, none⟩ = some (.int .i64 n2)
  ne : (r ≠ g ∧ r ≠ a ∧ r ≠ b ∧ r ≠ c ∧ g ≠ a ∧ g ≠ b ∧ g ≠ c ∧ a ≠ b ∧ a ≠ c ∧ b ≠ c) ∧ k ≠ a ∧ k ≠ b ∧ k ≠ c
  hk : k < w.heap.size
  lo : B ≤ r ∧ B ≤ g ∧ B ≤ a ∧ B ≤ b ∧ B ≤ c
theorem pv_made {w1 wx : World} {B r g a b c k o : Nat} {n0 n1 n2 : Int} (hb : Below w1.heap.size w1 wx) (cr : Cs w1 r [.slice none 0 0, .slice none 0 0, .slice none 0 0]) (hk : k < w1.heap.size)
    (y0 : w1.cell? ⟨k, o, none⟩ = some (.int .i64 n0)) (y1 : w1.cell? ⟨k, o + 1, none⟩ = some (.int .i64 n1)) (y2 : w1.cell? ⟨k, o + 2, none⟩ = some (.int .i64 n2)) (hB : B ≤ r)
    (cg : Cs wx g [.slice (some ⟨a, 0, none⟩) 2 2, .slice (some ⟨b, 0, none⟩) 2 2, .slice (some ⟨c, 0, none⟩) 2 2])
    (oa : OwnI wx w1.heap.size (some ⟨a, 0, none⟩) 2 2 [0, 0]) (ob : OwnI wx w1.heap.size (some ⟨b, 0, none⟩) 2 2 [0, 0]) (oc : OwnI wx w1.heap.size (some ⟨c, 0, none⟩) 2 2 [0, 0])
    (ne : w1.heap.size ≤ g ∧ g ≠ a ∧ g ≠ b ∧ g ≠ c ∧ a ≠ b ∧ a ≠ c ∧ b ≠ c) : PV wx B r g a b c [0, 0] [0, 0] [0, 0] k o n0 n1 n2 := by
  have la := (oa.block a rfl).1
  have lb := (ob.block b rfl).1
  have lc := (oc.block c rfl).1
  have hr := cr.1
  have hs := hb.size
  exact ⟨cr.below hb, cg, oa.mono (by omega), ob.mono (by omega), oc.mono (by omega), (hb.cell (p := ⟨k, o, none⟩) hk).trans y0, (hb.cell (p := ⟨k, o + 1, none⟩) hk).trans y1, (hb.cell (p := ⟨k, o + 2, none⟩) hk).trans y2,
    ⟨⟨by omega, by omega, by omega, by omega, ne.2⟩, by omega, by omega, by omega⟩, by omega, ⟨hB, by omega, by omega, by omega, by omega⟩⟩
theorem cell_far {w : World} {k o x j : Nat} {u v : Value} (h : w.cell? ⟨k, o, none⟩ = some v) (hne : k ≠ x) : (w.setCell ⟨x, j, none⟩ u).cell? ⟨k, o, none⟩ = some v := by
  rw [World.cell?_setCell_other _ _ _ _ (fun e => hne (by injection e with e1; exact e1.symm))]; exact h
section
variable {w : World} {B r g a b c : Nat} {la lb lc : List Int} {k o : Nat} {n0 n1 n2 : Int}
theorem PV.drew (h : PV w B r g a b c la lb lc k o n0 n1 n2) : PV w.drew B r g a b c la lb lc k o n0 n1 n2 := ⟨h.cr, h.cg, h.oa, h.ob, h.oc, h.y0, h.y1, h.y2, h.ne, h.hk, h.lo⟩
theorem PV.below {w' : World} (h : PV w B r g a b c la lb lc k o n0 n1 n2) (hb : Below w.heap.size w w') : PV w' B r g a b c la lb lc k o n0 n1 n2 :=
  ⟨h.cr.below hb, h.cg.below hb, h.oa.below hb, h.ob.below hb, h.oc.below hb, (hb.cell (p := ⟨k, o, none⟩) h.hk).trans h.y0, (hb.cell (p := ⟨k, o + 1, none⟩) h.hk).trans h.y1, (hb.cell (p := ⟨k, o + 2, none⟩) h.hk).trans h.y2, h.ne, Nat.lt_of_lt_of_le h.hk hb.size, h.lo⟩
theorem own_far {A : Option Addr} {n cc : Nat} {zs : List Int} {x : Nat} {w w' : World} (h : OwnI w B A n cc zs) (hg : w.grownBy w' (some x)) (hne : ∀ g, A = some ⟨g, 0, none⟩ → g ≠ x) : OwnI w' B A n cc zs := by
  refine h.kept hg ?_
  cases hv : (Value.slice A n cc).ownBlock with
  | none => exact .inl rfl
  | some y =>
    refine .inr fun e => ?_
    rcases h.1.2 with ⟨e1, _⟩ | ⟨g, cap, cur, e1, _⟩
    · simp only [Value.slice.injEq] at e1; obtain ⟨rfl, _⟩ := e1; simp [Value.ownBlock] at hv
    · simp only [Value.slice.injEq] at e1
      obtain ⟨rfl, _⟩ := e1
      simp [Value.ownBlock] at hv
      subst hv
      exact hne _ rfl (by simpa using e)
theorem PV.setA (h : PV w B r g a b c la lb lc k o n0 n1 n2) (j : Nat) (z : Int) (h1 : -9223372036854775808 ≤ z) (h2 : z ≤ 9223372036854775807) : PV (w.setCell ⟨a, j, none⟩ (.int .i64 z)) B r g a b c (la.set j z) lb lc k o n0 n1 n2 := by
  obtain ⟨⟨e1, e2, e3, e4, e5, e6, e7, e8, e9, e10⟩, f1, f2, f3⟩ := h.ne
  obtain ⟨s1, s2⟩ := h.oa.set j z h1 h2
  exact ⟨h.cr.far e2 _ _, h.cg.far e5 _ _, s1, own_far h.ob s2 (fun x hx => by simp at hx; omega), own_far h.oc s2 (fun x hx => by simp at hx; omega), cell_far h.y0 f1, cell_far h.y1 f1, cell_far h.y2 f1, h.ne, by simpa [World.setCell] using h.hk, h.lo⟩
theorem PV.setB (h : PV w B r g a b c la lb lc k o n0 n1 n2) (j : Nat) (z : Int) (h1 : -9223372036854775808 ≤ z) (h2 : z ≤ 9223372036854775807) : PV (w.setCell ⟨b, j, none⟩ (.int .i64 z)) B r g a b c la (lb.set j z) lc k o n0 n1 n2 := by
  obtain ⟨⟨e1, e2, e3, e4, e5, e6, e7, e8, e9, e10⟩, f1, f2, f3⟩ := h.ne
  obtain ⟨s1, s2⟩ := h.ob.set j z h1 h2
  exact ⟨h.cr.far e3 _ _, h.cg.far e6 _ _, own_far h.oa s2 (fun x hx => by simp at hx; omega), s1, own_far h.oc s2 (fun x hx => by simp at hx; omega), cell_far h.y0 f2, cell_far h.y1 f2, cell_far h.y2 f2, h.ne, by simpa [World.setCell] using h.hk, h.lo⟩
theorem PV.setC (h : PV w B r g a b c la lb lc k o n0 n1 n2) (j : Nat) (z : Int) (h1 : -9223372036854775808 ≤ z) (h2 : z ≤ 9223372036854775807) : PV (w.setCell ⟨c, j, none⟩ (.int .i64 z)) B r g a b c la lb (lc.set j z) k o n0 n1 n2 := by
  obtain ⟨⟨e1, e2, e3, e4, e5, e6, e7, e8, e9, e10⟩, f1, f2, f3⟩ := h.ne
  obtain ⟨s1, s2⟩ := h.oc.set j z h1 h2
  exact ⟨h.cr.far e4 _ _, h.cg.far e7 _ _, own_far h.oa s2 (fun x hx => by simp at hx; omega), own_far h.ob s2 (fun x hx => by simp at hx; omega), s1, cell_far h.y0 f3, cell_far h.y1 f3, cell_far h.y2 f3, h.ne, by simpa [World.setCell] using h.hk, h.lo⟩
theorem grown_set (w : World) (b i : Nat) (v : Value) : w.grownBy (w.setCell ⟨b, i, none⟩ v) (some b) :=
  ⟨rfl, rfl, rfl, by simp [World.setCell], fun k hk hne => Below.heap_setCell _ _ _ _ (fun e => hne (by rw [e]))⟩
theorem OwnI.setFar {A : Option Addr} {n cc : Nat} {zs : List Int} {x : Nat} (h : OwnI w B A n cc zs) (hne : ∀ g, A = some ⟨g, 0, none⟩ → g ≠ x) (j : Nat) (u : Value) : OwnI (w.setCell ⟨x, j, none⟩ u) B A n cc zs := own_far h (grown_set w x j u) hne
/-- The proof is handed on: its three headers go into the result's block. -/
def putR (w : World) (r : Nat) (u v x : Value) : World := ((w.setCell ⟨r, 0, none⟩ u).setCell ⟨r, 1, none⟩ v).setCell ⟨r, 2, none⟩ x
theorem PV.put (h : PV w B r g a b c la lb lc k o n0 n1 n2) (u v x : Value) :
    Cs (putR w r u v x) r [u, v, x] ∧ OwnI (putR w r u v x) B (some ⟨a, 0, none⟩) 2 2 la ∧ OwnI (putR w r u v x) B (some ⟨b, 0, none⟩) 2 2 lb ∧ OwnI (putR w r u v x) B (some ⟨c, 0, none⟩) 2 2 lc := by
  obtain ⟨⟨e1, e2, e3, e4, e5, e6, e7, e8, e9, e10⟩, f1, f2, f3⟩ := h.ne
  refine ⟨((h.cr.set 0 u (by simp)).set 1 v (by simp)).set 2 x (by simp), ?_, ?_, ?_⟩
  · exact ((h.oa.setFar (fun y hy => by simp at hy; omega) 0 u).setFar (fun y hy => by simp at hy; omega) 1 v).setFar (fun y hy => by simp at hy; omega) 2 x
  · exact ((h.ob.setFar (fun y hy => by simp at hy; omega) 0 u).setFar (fun y hy => by simp at hy; omega) 1 v).setFar (fun y hy => by simp at hy; omega) 2 x
  · exact ((h.oc.setFar (fun y hy => by simp at hy; omega) 0 u).setFar (fun y hy => by simp at hy; omega) 1 v).setFar (fun y hy => by simp at hy; omega) 2 x
theorem PV.gives {bt key : Int} {zs : List Int} {W w2 : World} (h : PV w W.heap.size r g a b c la lb lc k o n0 n1 n2) (hb : Below W.heap.size W w) (h2 : w2 = putR w r (.slice (some ⟨a, 0, none⟩) 2 2) (.slice (some ⟨b, 0, none⟩) 2 2) (.slice (some ⟨c, 0, none⟩) 2 2))
    (e1 : prM bt key zs = la) (e2 : prC bt key zs = lb) (e3 : prA bt key zs = lc) :
    GivesBP (prM bt key zs) (prC bt key zs) (prA bt key zs) true W (.returned (.tuple #[.agg #[.slice (some ⟨a, 0, none⟩) 2 2, .slice (some ⟨b, 0, none⟩) 2 2, .slice (some ⟨c, 0, none⟩) 2 2], .bool true])) w2 := by
  subst h2
  obtain ⟨p1, p2, p3, p4⟩ := h.put (.slice (some ⟨a, 0, none⟩) 2 2) (.slice (some ⟨b, 0, none⟩) 2 2) (.slice (some ⟨c, 0, none⟩) 2 2)
  obtain ⟨⟨_, _, _, _, _, _, _, e8, e9, e10⟩, _⟩ := h.ne
  have l1 : (prM bt key zs).length = 2 := two_length _ _ _
  have l2 : (prC bt key zs).length = 2 := two_length _ _ _
  have l3 : (prA bt key zs).length = 2 := two_length _ _ _
  refine ⟨some ⟨a, 0, none⟩, 2, some ⟨b, 0, none⟩, 2, some ⟨c, 0, none⟩, 2, by rw [l1, l2, l3], by rw [l1, e1]; exact p2, by rw [l2, e2]; exact p3, by rw [l3, e3]; exact p4, ?_, ?_⟩
  · rw [l1, l2, l3]
    exact ⟨.inr (by simpa [Value.ownBlock] using e8), .inr (by simpa [Value.ownBlock] using e9), .inr (by simpa [Value.ownBlock] using e10)⟩
  · exact ((hb.setCell (p := ⟨r, 0, none⟩) h.lo.1 _).setCell (p := ⟨r, 1, none⟩) h.lo.1 _).setCell (p := ⟨r, 2, none⟩) h.lo.1 _
end
end Go.Proofs.Ytnjnngnagdhaiaa
