/- A made ballot in a range of blocks; its lists' lengths; the contracts with the value parted. -/
import Derived.Test.YtnjnngnagdhaiaaImplSeal
import Derived.Test.YtnjnngnagdhaiaaRwsLaw
import Derived.Test.YtnjnngnagdhaiaaBalHeld2
namespace Go.Proofs.Ytnjnngnagdhaiaa
set_option linter.unusedVariables false
set_option maxRecDepth 100000
open Go.RowKit
structure BR (lo hi : Nat) (w : World) (A : Option Addr) (n c : Nat) (ss : List Int) (B : Option Addr) (m d : Nat) (hv : List Value) (ps : List Bp) : Prop where
  pb : PB lo w A n c ss B m d hv ps
  t0 : ∀ g, (Value.slice A n c).ownBlock = some g → g < hi
  t1 : ∀ g, (Value.slice B m d).ownBlock = some g → g < hi
  t2 : ∀ v ∈ hv, ∀ g, v.ownBlock = some g → g < hi
section
variable {lo hi : Nat} {w : World} {A : Option Addr} {n c : Nat} {ss : List Int} {B : Option Addr} {m d : Nat} {hv : List Value} {ps : List Bp}
theorem BR.mk' (h : PB lo w A n c ss B m d hv ps) : BR lo w.heap.size w A n c ss B m d hv ps := ⟨h, h.tops.1, fun g hg => (h.hd.lt g hg).2, h.tops.2⟩
theorem BR.below (h : BR lo hi w A n c ss B m d hv ps) {w' : World} (b : Below w.heap.size w w') : BR lo hi w' A n c ss B m d hv ps := ⟨h.pb.below b, h.t0, h.t1, h.t2⟩
theorem BR.only (h : BR lo hi w A n c ss B m d hv ps) {w' : World} {lo' hi' : Nat} (o : Only lo' hi' w w') (hd : Off lo hi lo' hi') : BR lo hi w' A n c ss B m d hv ps := by
  unfold Off at hd
  have off : ∀ g, lo ≤ g → g < hi → g < lo' ∨ hi' ≤ g := fun g h1 h2 => by omega
  refine ⟨⟨h.pb.own.only o fun g hg => off g (h.pb.own.block g hg).1 (h.t0 g hg), own_only h.pb.hd fun g hg => o.block g (h.pb.hd.lt g hg).2 (off g (h.pb.hd.lt g hg).1 (h.t1 g hg)), h.pb.len, fun j zs e => ?_, h.pb.apart⟩, h.t0, h.t1, h.t2⟩
  obtain ⟨A', c', e1, q⟩ := h.pb.row j zs e
  exact ⟨A', c', e1, q.only o fun g hg => off g (q.block g hg).1 (h.t2 _ (List.mem_of_getElem? e1) g hg)⟩
theorem BR.ob (h : BR lo hi w A n c ss B m d hv ps) : OB lo hi w A n c B m (.slice A n c :: hv) (ss :: fl3 ps) :=
  ⟨⟨h.pb.ob.rw.len, h.pb.ob.rw.row, h.pb.ob.rw.apart, fun v hv' g hg => by
    rcases List.mem_cons.1 hv' with rfl | hv'
    · exact h.t0 g hg
    · exact h.t2 v hv' g hg⟩, h.pb.ob.head, h.pb.ob.hb, h.pb.ob.len⟩
end
theorem Cs.only {w w' : World} {g : Nat} {l : List Value} {lo hi : Nat} (h : Cs w g l) (o : Only lo hi w w') (hd : g < lo ∨ hi ≤ g) : Cs w' g l := h.same o.size (o.block g h.1 hd)
def GivesS3 (ss : List Int) (ps : List Bp) (key : Int) (b : Bool) (w : World) (e : Ending) (w' : World) : Prop :=
  ∃ A c B d hv, e = .returned (.tuple #[.agg #[.slice A ss.length c, .slice B ps.length d, .int .i64 key], .bool b]) ∧ PB w.heap.size w' A ss.length c ss B ps.length d hv ps ∧ Below w.heap.size w w'
theorem sl_bd (vote : Int) (ks : List Int) (nss : List (List Int)) : (∀ zs ∈ ((slV vote ks nss).1 :: fl3 (slV vote ks nss).2.1), zs.length ≤ 1000) ∧ (slV vote ks nss).2.1.length ≤ 1000 ∧ totL ((slV vote ks nss).1 :: fl3 (slV vote ks nss).2.1) ≤ 1000000000 := by
  unfold slV
  have h1 : (slS vote ks 3).length = 3 := by simp [slS]
  have h2 : (slP vote ks nss 3).length = 3 := by simp [slP]
  have h3 : ∀ zs ∈ fl3 (slP vote ks nss 3), zs.length = 2 := by
    intro zs hz
    unfold fl3 at hz
    obtain ⟨p, hp, hz⟩ := List.mem_flatMap.1 hz
    unfold slP at hp
    obtain ⟨i, _, rfl⟩ := List.mem_map.1 hp
    simp only [List.mem_cons, List.not_mem_nil, or_false] at hz
    rcases hz with rfl | rfl | rfl
    · exact two_length _ _ _
    · exact two_length _ _ _
    · exact two_length _ _ _
  split
  · have h4 : ∀ zs ∈ (slS vote ks 3 :: fl3 (slP vote ks nss 3)), zs.length ≤ 1000 := by
      intro zs hz
      rcases List.mem_cons.1 hz with rfl | hz
      · omega
      · have := h3 zs hz; omega
    refine ⟨h4, by simp only; omega, ?_⟩
    have := totL_le h4
    have h5 : (slS vote ks 3 :: fl3 (slP vote ks nss 3)).length = 10 := by simp [fl3_len, h2]
    simp only
    omega
  · simp [fl3, totL]
end Go.Proofs.Ytnjnngnagdhaiaa
