/- Sets as ascending lists; a copy of a list; what the laws' helpers say of lists. (Out of XSetB and XMix.) -/
import Derived.Test.YtiodbjfchfmlcaaApp
import Derived.Test.YtiodbjfchfmlcaaFrac
import Derived.Test.YtiodbjfchfmlcaaMat
import Derived.WalkLawsBesides
import Derived.Lib.SliceRun
namespace Go.Proofs.Ytiodbjfchfmlcaa
set_option linter.unusedVariables false
set_option linter.unusedSimpArgs false
set_option maxRecDepth 100000
open Go.RowKit
def SetP (zs : List Int) (m : Int) : Prop := (∀ z ∈ zs, 0 ≤ z ∧ z ≤ m - 1) ∧ ∀ (i : Nat) (x y : Int), zs[i]? = some x → zs[i + 1]? = some y → x < y
theorem SetP.nil (m : Int) : SetP [] m := ⟨by simp, by simp⟩
theorem SetP.next {zs : List Int} {m z : Int} {k : Nat} (h : SetP (zs.take k) m) (hz : zs[k]? = some z) (hr : 0 ≤ z ∧ z ≤ m - 1) (hp : ∀ x, 0 < k → zs[k - 1]? = some x → x < z) : SetP (zs.take (k + 1)) m := by
  have hl := (List.getElem?_eq_some_iff.1 hz).1
  rw [take_snoc' hz]
  have hkl : (zs.take k).length = k := by rw [List.length_take]; omega
  refine ⟨fun y hy => ?_, fun i x y hx hy => ?_⟩
  · rcases List.mem_append.1 hy with hy | hy
    · exact h.1 y hy
    · simp at hy; subst hy; exact hr
  · rcases Nat.lt_or_ge (i + 1) k with h1 | h1
    · rw [List.getElem?_append_left (by omega)] at hx hy
      exact h.2 i x y hx hy
    · have hi : i + 1 = k := by
        have := (List.getElem?_eq_some_iff.1 hy).1
        rw [List.length_append, hkl] at this; simp at this; omega
      rw [List.getElem?_append_right (by omega), hkl, hi, Nat.sub_self] at hy
      simp at hy
      subst hy
      rw [List.getElem?_append_left (by omega), List.getElem?_take, if_pos (by omega)] at hx
      exact hp x (by omega) (by rw [← hi]; simpa using hx)
theorem SetP.bad {zs : List Int} {m z : Int} {k : Nat} (h : SetP zs m) (hz : zs[k]? = some z) : (0 ≤ z ∧ z ≤ m - 1) ∧ ∀ x, 0 < k → zs[k - 1]? = some x → x < z :=
  ⟨h.1 z (mem_of_at hz), fun x h0 hx => h.2 (k - 1) x z hx (by rw [Nat.sub_add_cancel h0]; exact hz)⟩
def SetB (b : Bool) (zs : List Int) (m : Int) : Prop := b = true ↔ SetP zs m
def SetEnd (zs : List Int) (m : Int) (w : World) (e : Ending) (w' : World) : Prop := ∃ b, e = .returned (.bool b) ∧ SetB b zs m ∧ w = w'
theorem isSet_any (A : Option Addr) (n c : Nat) (zs : List Int) (m : Int) (w : World) (h : Ints .i64 w A n c zs) (hm : -9223372036854775807 ≤ m) (hm2 : m ≤ 9223372036854775807) :
    Calls Try.prog 49 #[.slice A n c, .int .i64 m] w (SetEnd zs m w) := by
  have hs := h.short
  have hl := Lib.hid h.1
  go_enter Try.func49, Try.ntmps49
  go_wp2_with fail
  go_loop [9] (fun i => ∃ k : Nat, k ≤ n ∧ i = .int .i64 k ∧ SetP (zs.take k) m) (fun i => n - (intOf i).toNat)
  case atStart => exact ⟨0, Nat.zero_le _, rfl, by simpa using SetP.nil m⟩
  case round =>
    obtain ⟨k, hk, rfl, hset⟩ := hrel
    have HS := Lib.hid hset
    clear hset
    by_cases hlt : k < n
    · obtain ⟨b, off, z, rfl, hb, hcell, hz1, hz2, hz⟩ := h.at hlt
      cases hr : inR z 0 (m - 1)
      · have HR := Lib.hid hr
        have NO : Hid ((false = true) ↔ SetP zs m) := by
          show _ ↔ _
          constructor
          · intro h; cases h
          · intro h; exact absurd ((h.bad hz.out).1) (inR_false.1 hr)
        clear hr
        go_wp2_with fail
        refine (within_val HR.out _).mono ?_
        rintro e w1 ⟨rfl, rfl⟩
        go_wp2_with fail
        go_ret
        exact ⟨false, rfl, NO.out, rfl⟩
      · have HR := Lib.hid hr
        have hri := inR_true.1 hr
        clear hr
        rcases Nat.eq_zero_or_pos k with h0 | h0
        · subst h0
          rw [Nat.add_zero] at hcell
          have HN := Lib.hid (HS.out.next hz.out hri (fun x h0 => absurd h0 (by omega)))
          go_wp2_with fail
          refine (within_val HR.out _).mono ?_
          rintro e w1 ⟨rfl, rfl⟩
          go_wp2_with fail
          go_round
          case rel => exact ⟨1, by omega, by go_num, HN.out⟩
          case measure => simp [intOf]; omega
        · obtain ⟨k, rfl⟩ : ∃ k', k = k' + 1 := ⟨k - 1, by omega⟩
          obtain ⟨_, _, x, ea, hb2, cx, x1, x2, hx⟩ := h.at (j := k) (by omega)
          simp only [Option.some.injEq, Addr.mk.injEq, and_true] at ea
          obtain ⟨rfl, rfl⟩ := ea
          rw [Int.natCast_add, Int.natCast_one]
          by_cases hxz : x < z
          · have HN := Lib.hid (HS.out.next hz.out hri (fun y _ hy => by
              rw [Nat.add_sub_cancel, hx.out] at hy
              injection hy with hy
              omega))
            go_wp2_with fail
            refine (within_val HR.out _).mono ?_
            rintro e w1 ⟨rfl, rfl⟩
            go_wp2_with fail
            go_round
            case rel => exact ⟨k + 2, by omega, by go_num, HN.out⟩
            case measure => simp [intOf]; omega
          · have NO : Hid ((false = true) ↔ SetP zs m) := by
              show _ ↔ _
              constructor
              · intro h; cases h
              · intro h; exact absurd ((h.bad hz.out).2 x (by omega) (by rw [Nat.add_sub_cancel]; exact hx.out)) hxz
            go_wp2_with fail
            refine (within_val HR.out _).mono ?_
            rintro e w1 ⟨rfl, rfl⟩
            go_wp2_with fail
            go_ret
            exact ⟨false, rfl, NO.out, rfl⟩
    · have HE : Hid (SetP zs m) := by
        show SetP _ _
        have := HS.out
        rwa [List.take_of_length_le (by rw [hl.out]; omega)] at this
      go_wp2_with fail
      go_ret
      exact ⟨true, rfl, ⟨fun _ => HE.out, fun _ => rfl⟩, rfl⟩
end Go.Proofs.Ytiodbjfchfmlcaa
