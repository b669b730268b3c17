/- What an audit gives. No program. -/
import Derived.Test.YtfanjnoaifhnnaaMargin
import Derived.Test.YtfanjnoaifhnnaaAudit
import Derived.Test.YtfanjnoaifhnnaaSample
namespace Go.Proofs.Ytfanjnoaifhnnaa
set_option linter.unusedVariables false
open Go.RowKit
theorem shuf_mem : ∀ (i : Nat) (s : Int) (xs : List Int), i < xs.length → 0 ≤ s → ∀ x ∈ shuf i s xs, x ∈ xs := by
  intro i
  induction i with
  | zero => intro s xs _ _ x hx; simpa [shuf] using hx
  | succ i ih =>
    intro s xs hi hs x hx
    have hn := nextS_bd s
    have r0 : 0 ≤ nextS s % ((i + 1 : Nat) + 1 : Int) := Int.emod_nonneg _ (by omega)
    have r1 : nextS s % ((i + 1 : Nat) + 1 : Int) < ((i + 1 : Nat) + 1 : Int) := Int.emod_lt_of_pos _ (by omega)
    rw [shuf_step (by omega), Nat.add_sub_cancel] at hx
    have := ih _ _ (by rw [swapL_length]; omega) hn.1 x hx
    exact swapL_mem hi (by omega) this
theorem auditL_mem {key n : Int} (hn : 0 ≤ n) (hk : 0 ≤ key) : ∀ z ∈ auditL key n, 0 ≤ z ∧ z < n := by
  intro z hz
  rcases (show n.toNat = 0 ∨ 0 < n.toNat by omega) with h | h
  · have : (auditL key n).length = 0 := by rw [auditL_length, h]
    rw [List.eq_nil_of_length_eq_zero this] at hz
    cases hz
  · have := shuf_mem (n - 1).toNat key (iota 0 n.toNat) (by rw [iota_length]; omega) hk z hz
    have := iota_mem this
    omega
theorem marg_le {vs ws : List Int} {n : Nat} (hl : vs.length = n) (hv : votesB vs ws = true) : marg vs ws ≤ n := by
  obtain ⟨g1, g2, g3, g4⟩ := votesB_true hl hv
  have h1 := (cutF_bd (desc (gains (mAg vs ws) vs ws)) (mNeed vs ws) 0 (Int.le_refl 0)).2
  have h2 := (gainT_ok (ag := mAg vs ws) (vs := vs) g4 n).1
  rw [gainT_end hl] at h2
  rw [desc_length] at h1
  unfold marg
  omega
/-- Does a ballot differ? -/
def badB (rep act : List Int) (i : Int) : Bool := rep.getD i.toNat 0 != act.getD i.toNat 0
def auOk (rep act ws : List Int) (key ln ld : Int) : Bool := votesB rep ws && votesB act ws && inR key 0 2147483646 && okF ln ld
def auSm (rep ws : List Int) (ln ld : Int) : Int := sampI rep.length (marg rep ws) ln ld
def auSeen (rep act ws : List Int) (key ln ld : Int) : Bool := ((auditL key rep.length).take (auSm rep ws ln ld).toNat).any (badB rep act)
def auRes (rep act ws : List Int) (key ln ld : Int) : Int × Bool × Bool :=
  if auOk rep act ws key ln ld then
    if marg rep ws < 0 then (0, adopt rep ws, true)
    else if auSm rep ws ln ld < 0 then (0, false, false)
    else if auSeen rep act ws key ln ld then (rep.length, adopt act ws, true) else (auSm rep ws ln ld, adopt rep ws, true)
  else (0, false, false)
section
variable {rep act ws : List Int} {key ln ld : Int}
theorem au_no (h : auOk rep act ws key ln ld = false) : auRes rep act ws key ln ld = (0, false, false) := by simp [auRes, h]
theorem au_none (h : auOk rep act ws key ln ld = true) (hm : marg rep ws < 0) : auRes rep act ws key ln ld = (0, adopt rep ws, true) := by simp [auRes, h, hm]
theorem au_small (h : auOk rep act ws key ln ld = true) (hm : ¬ marg rep ws < 0) (hs : auSm rep ws ln ld < 0) : auRes rep act ws key ln ld = (0, false, false) := by simp [auRes, h, hm, hs]
theorem au_seen (h : auOk rep act ws key ln ld = true) (hm : ¬ marg rep ws < 0) (hs : ¬ auSm rep ws ln ld < 0) (hd : auSeen rep act ws key ln ld = true) : auRes rep act ws key ln ld = ((rep.length : Int), adopt act ws, true) := by
  unfold auRes; rw [if_pos h, if_neg hm, if_neg hs, if_pos hd]
theorem au_end (h : auOk rep act ws key ln ld = true) (hm : ¬ marg rep ws < 0) (hs : ¬ auSm rep ws ln ld < 0) (hd : auSeen rep act ws key ln ld = false) : auRes rep act ws key ln ld = (auSm rep ws ln ld, adopt rep ws, true) := by
  unfold auRes; rw [if_pos h, if_neg hm, if_neg hs, hd]; rfl
end
theorem sampF_in (b x ln ld : Int) : ∀ (m : Nat) (k : Int), sampF b x ln ld m k = -1 ∨ k ≤ sampF b x ln ld m k ∧ sampF b x ln ld m k < k + m := by
  intro m
  induction m with
  | zero => intro k; exact .inl rfl
  | succ m ih =>
    intro k
    unfold sampF
    split
    · exact .inr ⟨Int.le_refl _, by omega⟩
    · rcases ih (k + 1) with h | h
      · exact .inl h
      · exact .inr ⟨by omega, by omega⟩
/-- What RunAudit returns. -/
def auVal (r : Int × Bool × Bool) : Value := .tuple #[.int .i64 r.1, .bool r.2.1, .bool r.2.2]
theorem au_ret {r : Int × Bool × Bool} {a : Int} {b c : Bool} (h : r = (a, b, c)) : Ending.returned (.tuple #[.int .i64 a, .bool b, .bool c]) = .returned (auVal r) := by rw [h]; rfl
theorem samp_small {b x ln ld : Int} (h1 : okF ln ld = true) (h2 : inR b 0 30 = true) (h3 : inR x 0 b = true) (h : sampI b x ln ld < 0) : sampOk b x ln ld = false ∧ sampV b x ln ld = 0 := samp_no (by simp [sampOk]; intro _; exact h)
end Go.Proofs.Ytfanjnoaifhnnaa
