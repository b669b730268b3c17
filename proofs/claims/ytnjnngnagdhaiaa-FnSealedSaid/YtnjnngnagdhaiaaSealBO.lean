/- What SealBallot makes; append of a proof at a step of a drawn region; the variable that holds the ballot while it is being made. -/
import Derived.Test.YtnjnngnagdhaiaaSealPB
import Derived.Test.YtnjnngnagdhaiaaStepApp
import Derived.Test.YtnjnngnagdhaiaaProve7
namespace Go.Proofs.Ytnjnngnagdhaiaa
set_option linter.unusedVariables false
set_option maxRecDepth 100000
open Go.RowKit
theorem step_app_bp {ops : Array Oper} {o : Oper} {a : Act} {K : Act → World → Prop} {Q : Exit → Act → World → Prop} {E : Prop} (w : World) (hgd : o.guard = none) (s x : Operand)
    (ho : o.op = .call { callee := .builtin .append, args := #[s, x], argTypes := #[46, 46] }) (base : Nat)
    (B : Option Addr) (m d : Nat) (hv : List Value) (hs : a.eval s = .slice B m d) (hown : w.ownsRow base 31 3 (.slice B m d) m hv)
    (s1 s2 s3 : Value) (o1 : s1.oneCell' = true) (o2 : s2.oneCell' = true) (o3 : s3.oneCell' = true)
    (g0 : Nat) (hx : a.eval x = .slice (some ⟨g0, 0, none⟩) 1 1) (h0 : w.cell? ⟨g0, 0, none⟩ = some s1) (h1 : w.cell? ⟨g0, 1, none⟩ = some s2) (h2 : w.cell? ⟨g0, 2, none⟩ = some s3) (hn : m ≤ 1099511627) (hbase : base ≤ w.heap.size)
    (h : ∀ B' d' w1, w1.ownsRow base 31 3 (.slice B' (m + 1) d') (m + 1) (hv ++ [s1, s2, s3]) → w.grownBy w1 (Value.slice B m d).ownBlock → K (a.put o.dst (.slice B' (m + 1) d')) w1) :
    if Region.wanted o (yielded ops a.tmps) = true then Oper.wp Try.prog o a w K Q else E := by
  obtain ⟨i0, hi, hzz⟩ := Option.map_eq_some_iff.1 info_bp
  simp only [Prod.mk.injEq] at hzz
  obtain ⟨hz0, hz1, hz2⟩ := hzz
  refine step_append_lies w hgd s x _ ho base _ i0 _ 3 72 Try.underlying46 hi hz0 hz1 hz2 rfl (by decide) _ m hv hs hown ⟨g0, 0, none⟩ 1 1 [s1, s2, s3] hx rfl ?_ (by intro u hu; simp at hu; rcases hu with rfl | rfl | rfl <;> assumption) (by omega) (by unfold maxLen; omega) (by omega) hbase w.heap.size rfl ?_
  · intro j u hj
    match j, hj with
    | 0, hj => simp at hj; subst hj; rw [Addr.add_lit]; exact h0
    | 1, hj => simp at hj; subst hj; rw [Addr.add_lit]; exact h1
    | 2, hj => simp at hj; subst hj; rw [Addr.add_lit]; exact h2
  · intro g cap w' h2 h3 h4 h5
    exact h _ _ w' h2 h3
def bitOf (vote : Int) (i : Nat) : Int := if (i : Int) = vote then 1 else 0
theorem bitOf_in (vote : Int) (i : Nat) : 0 ≤ bitOf vote i ∧ bitOf vote i ≤ 1 := by unfold bitOf; split <;> omega
def slB (vote : Int) (ks : List Int) (nss : List (List Int)) : Bool := inR vote 0 2 && allB ks 3 expB && (decide (nss.length = 3) && nss.all fun l => allB l 3 expB)
def slS (vote : Int) (ks : List Int) (k : Nat) : List Int := (List.range k).map fun i => sealO (bitOf vote i) (ks.getD i 0)
def slP (vote : Int) (ks : List Int) (nss : List (List Int)) (k : Nat) : List Bp := (List.range k).map fun i => ⟨prM (bitOf vote i) (ks.getD i 0) (nss.getD i []), prC (bitOf vote i) (ks.getD i 0) (nss.getD i []), prA (bitOf vote i) (ks.getD i 0) (nss.getD i [])⟩
def slK (ks : List Int) (k : Nat) : Int := (ks.take k).foldl (fun o z => (o + z) % 500000003) 0
theorem slS_succ (vote : Int) (ks : List Int) {k : Nat} {x : Int} (hx : ks[k]? = some x) : slS vote ks (k + 1) = slS vote ks k ++ [sealO (bitOf vote k) x] := by
  simp [slS, List.range_succ, List.getD_eq_getElem?_getD, hx]
theorem slP_succ (vote : Int) (ks : List Int) (nss : List (List Int)) {k : Nat} {x : Int} {ns : List Int} (hx : ks[k]? = some x) (hn : nss[k]? = some ns) : slP vote ks nss (k + 1) = slP vote ks nss k ++ [⟨prM (bitOf vote k) x ns, prC (bitOf vote k) x ns, prA (bitOf vote k) x ns⟩] := by
  simp [slP, List.range_succ, List.getD_eq_getElem?_getD, hx, hn]
theorem slK_succ (ks : List Int) {k : Nat} {x : Int} (hx : ks[k]? = some x) : slK ks (k + 1) = (slK ks k + x) % 500000003 := by
  unfold slK; rw [take_snoc' hx, List.foldl_append]; rfl
theorem slK_bd (ks : List Int) (k : Nat) : 0 ≤ slK ks k ∧ slK ks k < 500000003 := foldl_inv (fun o => 0 ≤ o ∧ o < 500000003) (fun o z => ⟨Int.emod_nonneg _ (by decide), Int.emod_lt_of_pos _ (by decide)⟩) _ _ (by decide)
/-- The lists of the ballot that is given. -/
def slV (vote : Int) (ks : List Int) (nss : List (List Int)) : List Int × List Bp × Int := if slB vote ks nss then (slS vote ks 3, slP vote ks nss 3, slK ks 3) else ([], [], 0)
/-- A ballot and whether it is one. -/
def GivesSB (v : List Int × List Bp × Int) (b : Bool) (w : World) (e : Ending) (w' : World) : Prop :=
  ∃ A c B d hv, e = .returned (.tuple #[.agg #[.slice A v.1.length c, .slice B v.2.1.length d, .int .i64 v.2.2], .bool b]) ∧ PB w.heap.size w' A v.1.length c v.1 B v.2.1.length d hv v.2.1 ∧ Below w.heap.size w w'
theorem pb_nil (lo : Nat) (w : World) : PB lo w none 0 0 [] none 0 0 [] [] :=
  ⟨ownI_nil _ _, World.ownsRow_nil _ _ _ _, rfl, fun j zs e => by simp [fl3] at e, by simp⟩
def BO (w : World) (g : Nat) (u0 u1 u2 : Value) : Prop := w.ownsRow g 48 3 (.slice (some ⟨g, 0, none⟩) 1 1) 1 [u0, u1, u2]
theorem BO.new (w : World) (u0 u1 u2 : Value) : BO (w.alloc (.cells #[u0, u1, u2] 48)) w.heap.size u0 u1 u2 := by
  have := World.ownsRow_lit (base := w.heap.size) (e := 48) (size := 3) w #[u0, u1, u2] 1 (Nat.le_refl _) (by unfold maxLen; omega) rfl
  unfold BO
  simpa using this
section
variable {w w' : World} {g : Nat} {u0 u1 u2 : Value}
theorem BO.below (h : BO w g u0 u1 u2) (b : Below w.heap.size w w') : BO w' g u0 u1 u2 := World.ownsRow.kept (row := none) h ⟨b.os, b.tape, b.output, b.size, fun k hk _ => b.block k hk⟩ (.inr (by simp [Value.ownBlock]))
theorem BO.cells (h : BO w g u0 u1 u2) : w.cell? ⟨g, 0, none⟩ = some u0 ∧ w.cell? ⟨g, 1, none⟩ = some u1 ∧ w.cell? ⟨g, 2, none⟩ = some u2 := by
  have k := World.ownsRow.cells h (g := g) rfl
  have k0 := k 0 u0 rfl
  have k1 := k 1 u1 rfl
  have k2 := k 2 u2 rfl
  rw [Addr.add_lit, Nat.zero_add] at k0 k1 k2
  exact ⟨k0, k1, k2⟩
theorem BO.free (h : BO w g u0 u1 u2) (j : Nat) : w.frozen? ⟨g, j, none⟩ = false := World.ownsRow.frozenAt h j
theorem BO.lt (h : BO w g u0 u1 u2) : g < w.heap.size := (World.ownsRow.lt h g rfl).2
theorem BO.set0 (h : BO w g u0 u1 u2) (u : Value) : BO (w.setCell ⟨g, 0, none⟩ u) g u u1 u2 ∧ w.grownBy (w.setCell ⟨g, 0, none⟩ u) (some g) := World.ownsRow.stored h 0 u
theorem BO.set1 (h : BO w g u0 u1 u2) (u : Value) : BO (w.setCell ⟨g, 1, none⟩ u) g u0 u u2 ∧ w.grownBy (w.setCell ⟨g, 1, none⟩ u) (some g) := World.ownsRow.stored h 1 u
theorem BO.set2 (h : BO w g u0 u1 u2) (u : Value) : BO (w.setCell ⟨g, 2, none⟩ u) g u0 u1 u ∧ w.grownBy (w.setCell ⟨g, 2, none⟩ u) (some g) := World.ownsRow.stored h 2 u
/-- The ballot's lists are kept where the variable is written; the variable, where the seals' or the proofs' block is. -/
theorem PB.keep {lo : Nat} {A : Option Addr} {n c : Nat} {ss : List Int} {B : Option Addr} {m d : Nat} {hv : List Value} {ps : List Bp} (p : PB lo w A n c ss B m d hv ps) (h : BO w g u0 u1 u2) (hg : w.grownBy w' (some g)) : PB lo w' A n c ss B m d hv ps :=
  have keep : ∀ {B0 : Option Addr} {m0 d0 b0 : Nat} {us : List Int}, OwnI w b0 B0 m0 d0 us → OwnI w' b0 B0 m0 d0 us := fun hu => hu.kept hg (own_ne hu.1 h (by decide))
  ⟨keep p.own, p.hd.kept hg (own_ne p.hd h (by decide)), p.len, fun j zs e => by obtain ⟨A', c', e1, o⟩ := p.row j zs e; exact ⟨A', c', e1, keep o⟩, p.apart⟩
theorem BO.keepS (h : BO w g u0 u1 u2) {lo : Nat} {A : Option Addr} {n c : Nat} {ss : List Int} (o : OwnI w lo A n c ss) (hg : w.grownBy w' (Value.slice A n c).ownBlock) : BO w' g u0 u1 u2 := World.ownsRow.kept h hg (own_ne h o.1 (by decide))
theorem BO.keepP (h : BO w g u0 u1 u2) {lo : Nat} {B : Option Addr} {m d : Nat} {hv : List Value} (o : w.ownsRow lo 31 3 (.slice B m d) m hv) (hg : w.grownBy w' (Value.slice B m d).ownBlock) : BO w' g u0 u1 u2 := World.ownsRow.kept h hg (own_ne h o (by decide))
end
end Go.Proofs.Ytnjnngnagdhaiaa
