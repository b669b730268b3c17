/- The reference's draws of votes, and votes with another result. -/
import Derived.Test.YtfanjnoaifhnnaaMargin
import Derived.Test.YtfanjnoaifhnnaaMargMath
import Derived.Test.YtfanjnoaifhnnaaJoined
namespace Go.Proofs.Ytfanjnoaifhnnaa
set_option linter.unusedVariables false
open Go.RowKit
/-- Few votes with their weights. -/
structure FewVotes (n : Nat) (vs ws : List Int) : Prop where
  n8 : n ≤ 8
  lv : vs.length = n
  lw : ws.length = n
  hv : ∀ z ∈ vs, 0 ≤ z ∧ z ≤ 2
  hw : ∀ z ∈ ws, 0 ≤ z ∧ z ≤ 3
def MadeVotes (w : World) (e : Ending) (w' : World) : Prop :=
  ∃ (n : Nat) (A : Option Addr) (c : Nat) (B : Option Addr) (d : Nat) (vs ws : List Int), e = .returned (.tuple #[.slice A n c, .slice B n d]) ∧ FewVotes n vs ws ∧ OwnI w' w.heap.size A n c vs ∧ OwnI w' w.heap.size B n d ws ∧ Below w.heap.size w w'
theorem mem_snoc {p : Int → Prop} {zs : List Int} {z : Int} (h : ∀ y ∈ zs, p y) (hz : p z) : ∀ y ∈ zs ++ [z], p y := by
  intro y hy
  rcases List.mem_append.1 hy with hy | hy
  · exact h y hy
  · simp at hy; subst hy; exact hz
theorem own_ne_old {w : World} {base g : Nat} {A : Option Addr} {n c : Nat} {zs : List Int} (h : OwnI w base A n c zs) (hg : g < base) : (Value.slice A n c).ownBlock = none ∨ (Value.slice A n c).ownBlock ≠ some g := by
  cases hv : (Value.slice A n c).ownBlock with
  | none => exact .inl rfl
  | some x => exact .inr (fun e => by injection e with e; have := (h.block x hv).1; omega)
set_option maxHeartbeats 1000000 in
theorem R8Votes_any (A : Option Addr) (n c : Nat) (bs : List Int) (w : World) (h : Ints .u8 w A n c bs) :
    Calls Try.prog 15 #[.slice A n c] w (MadeVotes w) := by
  go_enter Try.func15, Try.ntmps15
  go_wp2_with fail
  refine (l00From_any A n c bs _ h).mono ?_
  rintro e w1 ⟨g, rfl, hg, hs, hb⟩
  have hgl := hs.lt
  go_wp2_with fail
  have ha := ownI_lit w1
  have hb2 := ownI_lit (w1.alloc (.cells #[] 2))
  have hs2 := (hs.kept (bel_alloc w1 (.cells #[] 2))).kept (bel_alloc _ (.cells #[] 2))
  have bw := bel_trans (bel_alloc w1 (.cells #[] 2)) (bel_alloc _ (.cells #[] 2))
  have OA := Lib.hid (ha.below (bel_alloc _ (.cells #[] 2)))
  have OB := Lib.hid (hb2.mono (show w1.heap.size ≤ _ by simp))
  have eB : (w1.alloc (.cells #[] 2)).heap.size = w1.heap.size + 1 := by simp
  rw [eB] at OB
  clear ha hb2 eB
  refine (pick_any 9 g A n c bs 0 _ hs2 (by omega) (by omega) (by omega)).mono ?_
  rintro e w2 ⟨r, k1, rfl, hr, k10, k11, hs3, hg3⟩
  obtain ⟨r0, r1⟩ := hr.lt (by omega)
  obtain ⟨r, rfl⟩ := Int.eq_ofNat_of_zero_le r0
  have OA2 := OA.out.kept hg3 (own_ne_old OA.out hgl)
  have OB2 := OB.out.kept hg3 (own_ne_old OB.out hgl)
  have b2 := (bel_trans hb bw).grown hg3 (Nat.le_trans hb.size bw.size) (fun x hx => by injection hx with hx; omega)
  have z2 : w1.heap.size ≤ w2.heap.size := Nat.le_trans bw.size hg3.size
  go_wp2_with fail
  go_loopw [5, 6, 7] (fun t u i wr => ∃ (q j : Nat) (A' : Option Addr) (c' : Nat) (B' : Option Addr) (d' : Nat) (vs ws : List Int) (k : Nat), i = .int .i64 q ∧ t = .slice A' j c' ∧ u = .slice B' j d' ∧ j + q ≤ 8 ∧ FewVotes j vs ws ∧
    OwnI wr w1.heap.size A' j c' vs ∧ OwnI wr w1.heap.size B' j d' ws ∧ Apart (.slice A' j c') (.slice B' j d') ∧ k ≤ 2 + 4 * j ∧ Src wr g A n c bs k ∧ Below w.heap.size w wr ∧ w1.heap.size ≤ wr.heap.size) (fun _ _ i _ => (intOf i).toNat)
  case atStart => exact ⟨r, 0, _, _, _, _, [], [], k1, rfl, rfl, rfl, by omega, ⟨by omega, rfl, rfl, by simp, by simp⟩, OA2, OB2, .inr (by simp [Value.ownBlock]), by omega, hs3, b2, z2⟩
  case round =>
    obtain ⟨q, j, A', c', B', d', vs, ws, k, rfl, rfl, rfl, hq, hf, oA, oB, hap, hk, hs4, hbel, hz⟩ := hrel
    have HF := Lib.hid hf
    have HA := Lib.hid oA
    have HB := Lib.hid oB
    clear hf oA oB
    rcases Nat.eq_zero_or_pos q with h0 | h0
    · subst h0
      go_wp2_with fail
      go_ret2
      exact ⟨j, A', c', B', d', vs, ws, rfl, HF.out, HA.out.mono (by have := hb.size; omega), HB.out.mono (by have := hb.size; omega), hbel⟩
    · obtain ⟨q, rfl⟩ : ∃ q', q = q' + 1 := ⟨q - 1, by omega⟩
      rw [Int.natCast_add, Int.natCast_one]
      go_wp2_with fail
      refine (pick_any 3 g A n c bs k _ hs4 (by omega) (by omega) (by omega)).mono ?_
      rintro e w5 ⟨v, k5, rfl, hv, k50, k51, hs5, hg5⟩
      obtain ⟨v0, v1⟩ := hv.lt (by omega)
      have HA5 := Lib.hid (HA.out.kept hg5 (own_ne_old HA.out hgl))
      have HB5 := Lib.hid (HB.out.kept hg5 (own_ne_old HB.out hgl))
      have hbel5 : Below w.heap.size w w5 := hbel.grown hg5 hbel.size (fun x hx => by injection hx with hx; omega)
      have hz5 := Nat.le_trans hz hg5.size
      have j40 : j ≤ 1099511627776 := by omega
      have v2 : -9223372036854775808 ≤ v := by omega
      have v3 : v ≤ 9223372036854775807 := by omega
      go_wp2_with (at_builtin; refine app_int_at w5 rfl _ _ rfl w1.heap.size A' j c' vs rfl HA5.out v v2 v3 rfl j40 hz5 ?_; intro A6 c6 w6 p1 p2 p3; have HA6 := Lib.hid p1; have HB6 := Lib.hid (HB5.out.kept_apart hap.symm p2); have hap6 := apart_step hap p3 (fun x hx => (HB5.out.block x hx).2); have hs6 := hs5.grown p2 (fun x hx => by have := (HA5.out.block x hx).1; omega); have hbel6 : Below w.heap.size w w6 := hbel5.grown p2 hbel5.size (fun x hx => by have := (HA5.out.block x hx).1; have := hb.size; omega); have hz6 := Nat.le_trans hz5 p2.size; clear p1 p2 p3)
      refine (pick_any 4 g A n c bs k5 _ hs6 (by omega) (by omega) (by omega)).mono ?_
      rintro e w7 ⟨u, k7, rfl, hu, k70, k71, hs7, hg7⟩
      obtain ⟨u0, u1⟩ := hu.lt (by omega)
      have HA7 := Lib.hid (HA6.out.kept hg7 (own_ne_old HA6.out hgl))
      have HB7 := Lib.hid (HB6.out.kept hg7 (own_ne_old HB6.out hgl))
      have hbel7 : Below w.heap.size w w7 := hbel6.grown hg7 hbel6.size (fun x hx => by injection hx with hx; omega)
      have hz7 := Nat.le_trans hz6 hg7.size
      have u2 : -9223372036854775808 ≤ u := by omega
      have u3 : u ≤ 9223372036854775807 := by omega
      go_wp2_with (at_builtin; refine app_int_at w7 rfl _ _ rfl w1.heap.size B' j d' ws rfl HB7.out u u2 u3 rfl j40 hz7 ?_; intro B8 d8 w8 p1 p2 p3; have HB8 := Lib.hid p1; have HA8 := Lib.hid (HA7.out.kept_apart hap6 p2); have hap8 := (apart_step hap6.symm p3 (fun x hx => (HA7.out.block x hx).2)).symm; have hs8 := hs7.grown p2 (fun x hx => by have := (HB7.out.block x hx).1; omega); have hbel8 : Below w.heap.size w w8 := hbel7.grown p2 hbel7.size (fun x hx => by have := (HB7.out.block x hx).1; have := hb.size; omega); have hz8 := Nat.le_trans hz7 p2.size; clear p1 p2 p3)
      have HF2 : FewVotes (j + 1) (vs ++ [v]) (ws ++ [u]) := ⟨by omega, by simp [HF.out.lv], by simp [HF.out.lw], mem_snoc HF.out.hv ⟨v0, by omega⟩, mem_snoc HF.out.hw ⟨u0, by omega⟩⟩
      go_roundw
      case rel => exact ⟨q, j + 1, A6, c6, B8, d8, _, _, k7, rfl, rfl, rfl, by omega, HF2, HA8.out, HB8.out, hap8, by omega, hs8, hbel8, hz8⟩
      case measure => simp [intOf]
end Go.Proofs.Ytfanjnoaifhnnaa
