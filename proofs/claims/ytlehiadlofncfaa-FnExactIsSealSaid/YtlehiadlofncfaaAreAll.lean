/- Contracts of areAll and of the library's ContainsFunc and IndexFunc at slices of int64. -/
import Derived.Test.YtlehiadlofncfaaSealWalks
namespace Go.Proofs.Ytlehiadlofncfaa
set_option linter.unusedVariables false
open Go.RowKit
set_option maxRecDepth 100000 in
theorem indexFunc_areAll (A : Option Addr) (n c : Nat) (zs : List Int) (fv : Value) (p : Int → Bool) (w : World) (h : Ints .i64 w A n c zs)
   (hf : Hid (∀ z, z ∈ zs → ∀ wr, Below w.heap.size w wr → Calls Try.prog 88 #[.int .i64 z, fv] wr fun e w' => e = .returned (.bool (p z)) ∧ Below wr.heap.size wr w')) :
    Calls Try.prog 100 #[.slice A n c, .func (.func 88) #[] #[fv]] w (SomeIdx (zs.any p) w) := by
  have hm := h.short
  have hle : zs.length ≤ n := by have := h.1; omega
  go_enter Try.func100, Try.ntmps100
  go_wp2
  go_loopw [5, 8] (fun i j wr => ∃ k : Nat, k ≤ n ∧ j = .int .i64 k ∧ (zs.take k).any p = false ∧ Below w.heap.size w wr) (fun _ j _ => n - (intOf j).toNat)
  case atStart => exact ⟨0, Nat.zero_le _, rfl, rfl, Below.refl _ _⟩
  case round =>
    obtain ⟨k, hk, rfl, hall, hbel⟩ := hrel
    have H := Lib.hid hall
    clear hall
    by_cases hlt : k < n
    · obtain ⟨b, off, z, rfl, hb, hcell, hz1, hz2, hz⟩ := (h.below hbel).at hlt
      have hcall := Lib.hid (hf.out z (mem_of_at hz.out) wr hbel)
      cases hp : p z
      · have HP := Lib.hid hp
        clear hp
        go_wp2_with fail
        refine hcall.out.mono ?_
        rintro e w' ⟨rfl, hb2⟩
        rw [HP.out]
        have hb3 := bel_trans hbel hb2
        clear hb2
        go_wp2
        go_roundw
        case rel => exact ⟨k + 1, by omega, by go_num, any_next hz.out H.out HP.out, hb3⟩
        case measure => simp [intOf]; omega
      · have HP := Lib.hid hp
        clear hp
        go_wp2_with fail
        refine hcall.out.mono ?_
        rintro e w' ⟨rfl, hb2⟩
        rw [HP.out]
        have hb3 := bel_trans hbel hb2
        clear hb2
        go_wp2
        go_ret
        exact ⟨_, rfl, by rw [any_stop hz.out HP.out]; simp [IdxIs], hb3⟩
    · go_wp2
      go_ret
      exact ⟨_, rfl, by rw [any_end (by omega) H.out]; simp [IdxIs], hbel⟩
theorem containsFunc_areAll (A : Option Addr) (n c : Nat) (zs : List Int) (fv : Value) (p : Int → Bool) (w : World) (h : Ints .i64 w A n c zs)
   (hf : Hid (∀ z, z ∈ zs → ∀ wr, Below w.heap.size w wr → Calls Try.prog 88 #[.int .i64 z, fv] wr fun e w' => e = .returned (.bool (p z)) ∧ Below wr.heap.size wr w')) :
    Calls Try.prog 87 #[.slice A n c, .func (.func 88) #[] #[fv]] w (fun e w' => e = .returned (.bool (zs.any p)) ∧ Below w.heap.size w w') := by
  go_enter Try.func87, Try.ntmps87
  go_wp2_with fail
  refine (indexFunc_areAll A n c zs fv p w h hf).mono ?_
  rintro e w' ⟨r, rfl, hr, hb⟩
  go_wp2
  go_ret
  exact ⟨ret_bool hr, hb⟩


theorem areAll_any (A : Option Addr) (n c : Nat) (zs : List Int) (m : Int) (g : Nat) (p : Int → Bool) (w : World) (h : Ints .i64 w A n c zs)
    (hf : ∀ (a : Addr) (z : Int) (wr : World), wr.cell? a = some (.func (.func g) #[] #[]) → Calls Try.prog 88 #[.int .i64 z, .pointer (some a)] wr fun e w' => e = .returned (.bool (!p z)) ∧ Below wr.heap.size wr w') :
    Calls Try.prog 57 #[.slice A n c, .int .i64 m, .func (.func g) #[] #[]] w fun e w' => e = .returned (.bool (allB zs m p)) ∧ Below w.heap.size w w' := by
  have hm := h.short
  have H0 := Lib.hid hf
  clear hf
  obtain ⟨hl, hb0⟩ : zs.length = n ∧ True := ⟨h.1, trivial⟩
  have HL := Lib.hid hl
  clear hl
  cases hn : ((n : Int) == m)
  · have HN : Hid (allB zs m p = false) := allB_short (by rw [HL.out]; exact hn)
    go_enter Try.func57, Try.ntmps57
    go_wp2_with fail
    go_ret
    exact ⟨ret_bool HN.out.symm, bel_alloc _ _⟩
  · have HN : Hid (allB zs m p = !(zs.any fun z => !p z)) := allB_long (by rw [HL.out]; exact hn)
    go_enter Try.func57, Try.ntmps57
    go_wp2_with fail
    refine (containsFunc_areAll A n c zs _ (fun z => !p z) _ (h.below (bel_alloc _ _)) (fun z _ wr hb => H0.out _ z wr (by rw [hb.cell (by simp)]; simp))).mono ?_
    rintro e w' ⟨rfl, hb⟩
    have hb2 := bel_trans (bel_alloc _ _) hb
    clear hb
    go_wp2
    go_ret
    exact ⟨ret_bool HN.out.symm, hb2⟩
def expB (n : Int) : Bool := inR n 0 500000002
theorem isExponent_any (n : Int) (w : World) :
    Calls Try.prog 53 #[.int .i64 n] w fun e w' => e = .returned (.bool (expB n)) ∧ w = w' := by
  go_enter Try.func53, Try.ntmps53
  go_wp2_with (go_at_call 49; refine (within_any _ _ _ _).mono ?_; rintro e w' ⟨rfl, rfl⟩)
  go_ret
  exact ⟨rfl, rfl⟩
theorem areAllCl_isExponent (a : Addr) (z : Int) (w : World) (hc : w.cell? a = some (.func (.func 53) #[] #[])) :
    Calls Try.prog 88 #[.int .i64 z, .pointer (some a)] w fun e w' => e = .returned (.bool (!expB z)) ∧ Below w.heap.size w w' := by
  go_enter Try.func88, Try.ntmps88
  go_wp2_with (go_at_call 53; refine (isExponent_any _ _).mono ?_; rintro e w' ⟨rfl, rfl⟩)
  go_ret
  exact ⟨rfl, Below.refl _ _⟩
theorem areAll_isExponent (A : Option Addr) (n c : Nat) (zs : List Int) (m : Int) (w : World) (h : Ints .i64 w A n c zs) :
    Calls Try.prog 57 #[.slice A n c, .int .i64 m, .func (.func 53) #[] #[]] w fun e w' => e = .returned (.bool (allB zs m expB)) ∧ Below w.heap.size w w' :=
  areAll_any A n c zs m 53 expB w h fun a z w hc => areAllCl_isExponent a z w hc

end Go.Proofs.Ytlehiadlofncfaa
