/- The law FnJoined: the product of seals with weights is the seal of the sums. -/
import Derived.Test.YtnjnngnagdhaiaaGroup
import Derived.Test.YtnjnngnagdhaiaaSrc
namespace Go.Proofs.Ytnjnngnagdhaiaa
set_option linter.unusedVariables false
open Go.RowKit

theorem joinKS_emod (K k w : Int) : joinKS K (k, w) = (K + k * w) % 500000003 := rfl
/-- One seal more. -/
theorem seal_step {S K v k w : Nat} : joinSS (sealO S K) (sealO v k, (w : Int)) = sealO ((S + w * v : Nat)) (joinKS K (k, (w : Int))) := by
  have e1 : joinKS (K : Int) ((k : Int), (w : Int)) = (((K + k * w) % 500000003 : Nat) : Int) := by
    rw [joinKS_emod, Int.natCast_emod, Int.natCast_add, Int.natCast_mul]; rfl
  rw [e1, sealO_nat, sealO_nat, sealO_nat, pw_mod order9, pw_add, pw_add]
  unfold joinSS
  simp only [Int.toNat_natCast]
  rw [pw_mul, pw_pow, pw_pow, Nat.mul_comm v w, mm4]
/-- What the loop's lists hold. -/
structure JInv (ss ks ws : List Int) (sum : Int) (i : Nat) : Prop where
  ls : ss.length = i
  lk : ks.length = i
  lw : ws.length = i
  hs : ∀ z ∈ ss, sealB z = true
  hk : ∀ z ∈ ks, ExpP z
  hw : ∀ z ∈ ws, 0 ≤ z ∧ z ≤ 3
  s0 : 0 ≤ sum
  s1 : sum ≤ 6 * (i : Int)
  eq : joinS ss ws = sealO sum (joinK ks ws)
theorem JInv.start : JInv [] [] [] 0 0 := ⟨rfl, rfl, rfl, by simp, by simp, by simp, by omega, by omega, by decide⟩
theorem joinK_bd (ks ws : List Int) : 0 ≤ joinK ks ws ∧ joinK ks ws < 500000003 := foldl_inv (fun o => 0 ≤ o ∧ o < 500000003) joinKS_bd _ _ (by decide)
theorem joinS_bd (ks ws : List Int) : 0 ≤ joinS ks ws ∧ joinS ks ws < 1000000007 := foldl_inv (fun o => 0 ≤ o ∧ o < 1000000007) joinSS_bd _ _ (by decide)
theorem JInv.next {ss ks ws : List Int} {sum : Int} {i : Nat} (h : JInv ss ks ws sum i) {v k w : Int} (hv : 0 ≤ v) (hv' : v ≤ 2) (hk : ExpP k) (hw : 0 ≤ w) (hw' : w ≤ 3) :
    JInv (ss ++ [sealO v k]) (ks ++ [k]) (ws ++ [w]) (sum + w * v) (i + 1) := by
  have m0 : 0 ≤ w * v := Int.mul_nonneg hw hv
  have m1 : w * v ≤ 3 * 2 := Int.mul_le_mul hw' hv' hv (by omega)
  refine ⟨by simp [h.ls], by simp [h.lk], by simp [h.lw], ?_, ?_, ?_, ?_, ?_, ?_⟩
  · intro z hz
    rcases List.mem_append.1 hz with hz | hz
    · exact h.hs z hz
    · simp at hz; subst hz; exact sealO_seal _ _
  · intro z hz
    rcases List.mem_append.1 hz with hz | hz
    · exact h.hk z hz
    · simp at hz; subst hz; exact hk
  · intro z hz
    rcases List.mem_append.1 hz with hz | hz
    · exact h.hw z hz
    · simp at hz; subst hz; exact ⟨hw, hw'⟩
  · have := h.s0; omega
  · have := h.s1; omega
  · have e1 : joinS (ss ++ [sealO v k]) (ws ++ [w]) = joinSS (joinS ss ws) (sealO v k, w) := by
      unfold joinS; rw [List.zip_append (by rw [h.ls, h.lw]), List.foldl_append]; rfl
    have e2 : joinK (ks ++ [k]) (ws ++ [w]) = joinKS (joinK ks ws) (k, w) := by
      unfold joinK; rw [List.zip_append (by rw [h.lk, h.lw]), List.foldl_append]; rfl
    rw [e1, e2, h.eq]
    have b := joinK_bd ks ws
    have s0 := h.s0
    obtain ⟨S, hS⟩ := Int.eq_ofNat_of_zero_le s0
    obtain ⟨K, hK⟩ := Int.eq_ofNat_of_zero_le b.1
    obtain ⟨v, rfl⟩ := Int.eq_ofNat_of_zero_le hv
    obtain ⟨k, rfl⟩ := Int.eq_ofNat_of_zero_le hk.1
    obtain ⟨w, rfl⟩ := Int.eq_ofNat_of_zero_le hw
    rw [hS, hK, seal_step]
    congr 1
theorem JInv.joins {ss ks ws : List Int} {sum : Int} {i : Nat} (h : JInv ss ks ws sum i) (hi : i ≤ 12) : joinB ss ws sealB = true ∧ joinB ks ws expB = true := by
  have hw : allB ws (i : Int) weightB = true := allB_true.2 ⟨by rw [h.lw], fun z hz => inR_true.2 (by have := h.hw z hz; omega)⟩
  refine ⟨joinB_yes h.ls hi (List.all_eq_true.2 h.hs) hw, joinB_yes h.lk hi (List.all_eq_true.2 fun z hz => inR_true.2 (by have := h.hk z hz; exact ⟨this.1, this.2⟩)) hw⟩
theorem implSealOf_in (v k s : Int) (w : World) (hv : expB v = true) (hk : expB k = true) (hs : sealO v k = s) :
    Calls Try.prog 14 #[.int .i64 v, .int .i64 k] w fun e w' => e = .returned (.tuple #[.int .i64 s, .bool true]) ∧ w = w' := by
  subst hs
  have := implSealOf_any v k w
  obtain ⟨h1, h2⟩ := sealOf_yes hv hk
  rwa [h1, h2] at this
theorem r8Long_any (A : Option Addr) (n c : Nat) (B : Option Addr) (m d : Nat) (w : World) (hn : n ≤ 9223372036854775807) (hm : m ≤ 9223372036854775807) :
    Calls Try.prog 11 #[.slice A n c, .slice B m d] w fun e w' => e = .returned (.bool (decide ((48 : Int) < n) || decide ((48 : Int) < m))) ∧ w = w' := by
  by_cases h1 : 48 < n
  · go_enter Try.func11, Try.ntmps11
    go_wp2_with fail
    go_ret
    exact ⟨ret_bool (by simp), rfl⟩
  · go_enter Try.func11, Try.ntmps11
    go_wp2_with fail
    go_ret
    exact ⟨ret_bool (by have : ¬ (48 : Int) < n := by omega
                        simp [this]), rfl⟩
theorem r8At_any (A : Option Addr) (n c : Nat) (bs : List Int) (k q : Int) (w : World) (h : Ints .u8 w A n c bs) (k0 : 0 ≤ k) (k1 : k ≤ 9223372036854775807) :
    Calls Try.prog 12 #[.slice A n c, .int .i64 k, .int .i64 q] w fun e w' => ∃ r, e = .returned (.int .i64 r) ∧ Lt1 q r ∧ Below w.heap.size w w' := by
  have hm := h.short
  obtain ⟨j, rfl⟩ := Int.eq_ofNat_of_zero_le k0
  by_cases h1 : q ≤ 1
  · go_enter Try.func12, Try.ntmps12
    go_wp2_with fail
    go_ret
    exact ⟨0, rfl, ⟨by omega, fun h => absurd h (by omega), fun _ => rfl⟩, Below.refl _ _⟩
  · by_cases h2 : j < n
    · obtain ⟨b, off, z, rfl, hb, hcell, z0, z1, hz⟩ := h.at8 h2
      have hx := lt1_mod (x := z) (n := q) (by omega) (by omega)
      go_enter Try.func12, Try.ntmps12
      go_wp2_with fail
      go_ret
      exact ⟨_, rfl, hx, Below.refl _ _⟩
    · go_enter Try.func12, Try.ntmps12
      go_wp2_with fail
      go_ret
      exact ⟨0, rfl, ⟨by omega, fun _ => by omega, fun _ => rfl⟩, Below.refl _ _⟩
end Go.Proofs.Ytnjnngnagdhaiaa
