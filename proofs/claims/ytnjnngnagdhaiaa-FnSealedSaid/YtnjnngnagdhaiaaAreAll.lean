/- Contracts of areAll and of the library's ContainsFunc and IndexFunc at slices of int64. -/
import Derived.Test.YtnjnngnagdhaiaaSealWalks
namespace Go.Proofs.Ytnjnngnagdhaiaa
set_option linter.unusedVariables false
open Go.RowKit
set_option maxRecDepth 100000 in
theorem indexFunc_areAll (A : Option Addr) (n c : Nat) (zs : List Int) (fv : Value) (p : Int → Bool) (w : World) (h : Ints .i64 w A n c zs)
   (hf : Hid (∀ z, z ∈ zs → ∀ wr, Below w.heap.size w wr → Calls Try.prog 91 #[.int .i64 z, fv] wr fun e w' => e = .returned (.bool (p z)) ∧ Below wr.heap.size wr w')) :
    Calls Try.prog 105 #[.slice A n c, .func (.func 91) #[] #[fv]] w (SomeIdx (zs.any p) w) := by
  have hm := h.short
  have hle : zs.length ≤ n := by have := h.1; omega
  go_enter Try.func105, Try.ntmps105
  go_wp2
  go_loopw [5, 8] (fun i j wr => ∃ k : Nat, k ≤ n ∧ j = .int .i64 k ∧ (zs.take k).any p = false ∧ Below w.heap.size w wr) (fun _ j _ => n - (intOf j).toNat)
  case atStart => exact ⟨0, Nat.zero_le _, rfl, rfl, Below.refl _ _⟩
  case round =>
    obtain ⟨k, hk, rfl, hall, hbel⟩ := hrel
    have H := Lib.hid hall
    clear hall
    by_cases hlt : k < n
    · obtain ⟨b, off, z, rfl, hb, hcell, hz1, hz2, hz⟩ := (h.below hbel).at hlt
      have hcall := Lib.hid (hf.out z (mem_of_at hz.out) wr hbel)
      cases hp : p z
      · have HP := Lib.hid hp
        clear hp
        go_wp2_with fail
        refine hcall.out.mono ?_
        rintro e w' ⟨rfl, hb2⟩
        rw [HP.out]
        have hb3 := bel_trans hbel hb2
        clear hb2
        go_wp2
        go_roundw
        case rel => exact ⟨k + 1, by omega, by go_num, any_next hz.out H.out HP.out, hb3⟩
        case measure => simp [intOf]; omega
      · have HP := Lib.hid hp
        clear hp
        go_wp2_with fail
        refine hcall.out.mono ?_
        rintro e w' ⟨rfl, hb2⟩
        rw [HP.out]
        have hb3 := bel_trans hbel hb2
        clear hb2
        go_wp2
        go_ret
        exact ⟨_, rfl, by rw [any_stop hz.out HP.out]; simp [IdxIs], hb3⟩
    · go_wp2
      go_ret
      exact ⟨_, rfl, by rw [any_end (by omega) H.out]; simp [IdxIs], hbel⟩
theorem containsFunc_areAll (A : Option Addr) (n c : Nat) (zs : List Int) (fv : Value) (p : Int → Bool) (w : World) (h : Ints .i64 w A n c zs)
   (hf : Hid (∀ z, z ∈ zs → ∀ wr, Below w.heap.size w wr → Calls Try.prog 91 #[.int .i64 z, fv] wr fun e w' => e = .returned (.bool (p z)) ∧ Below wr.heap.size wr w')) :
    Calls Try.prog 90 #[.slice A n c, .func (.func 91) #[] #[fv]] w (fun e w' => e = .returned (.bool (zs.any p)) ∧ Below w.heap.size w w') := by
  go_enter Try.func90, Try.ntmps90
  go_wp2_with fail
  refine (indexFunc_areAll A n c zs fv p w h hf).mono ?_
  rintro e w' ⟨r, rfl, hr, hb⟩
  go_wp2
  go_ret
  exact ⟨ret_bool hr, hb⟩

theorem areAll_any (A : Option Addr) (n c : Nat) (zs : List Int) (m : Int) (g : Nat) (p : Int → Bool) (w : World) (h : Ints .i64 w A n c zs)
    (hf : ∀ (a : Addr) (z : Int) (wr : World), wr.cell? a = some (.func (.func g) #[] #[]) → Calls Try.prog 91 #[.int .i64 z, .pointer (some a)] wr fun e w' => e = .returned (.bool (!p z)) ∧ Below wr.heap.size wr w') :
    Calls Try.prog 57 #[.slice A n c, .int .i64 m, .func (.func g) #[] #[]] w fun e w' => e = .returned (.bool (allB zs m p)) ∧ Below w.heap.size w w' := by
  have hm := h.short
  have H0 := Lib.hid hf
  clear hf
  obtain ⟨hl, hb0⟩ : zs.length = n ∧ True := ⟨h.1, trivial⟩
  have HL := Lib.hid hl
  clear hl
  cases hn : ((n : Int) == m)
  · have HN : Hid (allB zs m p = false) := allB_short (by rw [HL.out]; exact hn)
    go_enter Try.func57, Try.ntmps57
    go_wp2_with fail
    go_ret
    exact ⟨ret_bool HN.out.symm, bel_alloc _ _⟩
  · have HN : Hid (allB zs m p = !(zs.any fun z => !p z)) := allB_long (by rw [HL.out]; exact hn)
    go_enter Try.func57, Try.ntmps57
    go_wp2_with fail
    refine (containsFunc_areAll A n c zs _ (fun z => !p z) _ (h.below (bel_alloc _ _)) (fun z _ wr hb => H0.out _ z wr (by rw [hb.cell (by simp)]; simp))).mono ?_
    rintro e w' ⟨rfl, hb⟩
    have hb2 := bel_trans (bel_alloc _ _) hb
    clear hb
    go_wp2
    go_ret
    exact ⟨ret_bool HN.out.symm, hb2⟩
/-- Is a number an exponent, a weight, a vote, a number below the modulus? -/
def expB (n : Int) : Bool := inR n 0 500000002
def weightB (n : Int) : Bool := inR n 0 1000
def voteB (n : Int) : Bool := inR n 0 2
def modB (n : Int) : Bool := inR n 0 1000000006
theorem expB_true {n : Int} (h : expB n = true) : 0 ≤ n ∧ n ≤ 500000002 := inR_true.1 h
theorem weightB_true {n : Int} (h : weightB n = true) : 0 ≤ n ∧ n ≤ 1000 := inR_true.1 h
theorem voteB_true {n : Int} (h : voteB n = true) : 0 ≤ n ∧ n ≤ 2 := inR_true.1 h
theorem modB_true {n : Int} (h : modB n = true) : 0 ≤ n ∧ n ≤ 1000000006 := inR_true.1 h
theorem sealB_true {n : Int} (h : sealB n = true) : 1 ≤ n ∧ n ≤ 1000000006 := by
  simp only [sealB, Bool.and_eq_true] at h; exact inR_true.1 h.1
theorem isExponent_any (n : Int) (w : World) :
    Calls Try.prog 54 #[.int .i64 n] w fun e w' => e = .returned (.bool (expB n)) ∧ w = w' := by
  go_enter Try.func54, Try.ntmps54
  go_wp2_with (go_at_call 56; refine (within_any _ _ _ _).mono ?_; rintro e w' ⟨rfl, rfl⟩)
  go_ret
  exact ⟨rfl, rfl⟩
theorem isWeight_any (n : Int) (w : World) :
    Calls Try.prog 74 #[.int .i64 n] w fun e w' => e = .returned (.bool (weightB n)) ∧ w = w' := by
  go_enter Try.func74, Try.ntmps74
  go_wp2_with (go_at_call 56; refine (within_any _ _ _ _).mono ?_; rintro e w' ⟨rfl, rfl⟩)
  go_ret
  exact ⟨rfl, rfl⟩
theorem isVote_any (n : Int) (w : World) :
    Calls Try.prog 69 #[.int .i64 n] w fun e w' => e = .returned (.bool (voteB n)) ∧ w = w' := by
  go_enter Try.func69, Try.ntmps69
  go_wp2_with (go_at_call 56; refine (within_any _ _ _ _).mono ?_; rintro e w' ⟨rfl, rfl⟩)
  go_ret
  exact ⟨rfl, rfl⟩
theorem l09Exponent_any (n : Int) (w : World) :
    Calls Try.prog 66 #[.int .i64 n] w fun e w' => e = .returned (.bool (expB n)) ∧ w = w' := by
  go_enter Try.func66, Try.ntmps66
  go_wp2_with (go_at_call 65; refine (l00In_any _ _ _ _).mono ?_; rintro e w' ⟨rfl, rfl⟩)
  go_ret
  exact ⟨rfl, rfl⟩
theorem l09Vote_any (n : Int) (w : World) :
    Calls Try.prog 81 #[.int .i64 n] w fun e w' => e = .returned (.bool (voteB n)) ∧ w = w' := by
  go_enter Try.func81, Try.ntmps81
  go_wp2_with (go_at_call 65; refine (l00In_any _ _ _ _).mono ?_; rintro e w' ⟨rfl, rfl⟩)
  go_ret
  exact ⟨rfl, rfl⟩
theorem areAllCl_isExponent (a : Addr) (z : Int) (w : World) (hc : w.cell? a = some (.func (.func 54) #[] #[])) :
    Calls Try.prog 91 #[.int .i64 z, .pointer (some a)] w fun e w' => e = .returned (.bool (!expB z)) ∧ Below w.heap.size w w' := by
  go_enter Try.func91, Try.ntmps91
  go_wp2_with (go_at_call 54; refine (isExponent_any _ _).mono ?_; rintro e w' ⟨rfl, rfl⟩)
  go_ret
  exact ⟨rfl, Below.refl _ _⟩
theorem areAll_isExponent (A : Option Addr) (n c : Nat) (zs : List Int) (m : Int) (w : World) (h : Ints .i64 w A n c zs) :
    Calls Try.prog 57 #[.slice A n c, .int .i64 m, .func (.func 54) #[] #[]] w fun e w' => e = .returned (.bool (allB zs m expB)) ∧ Below w.heap.size w w' :=
  areAll_any A n c zs m 54 expB w h fun a z w hc => areAllCl_isExponent a z w hc
theorem areAllCl_isWeight (a : Addr) (z : Int) (w : World) (hc : w.cell? a = some (.func (.func 74) #[] #[])) :
    Calls Try.prog 91 #[.int .i64 z, .pointer (some a)] w fun e w' => e = .returned (.bool (!weightB z)) ∧ Below w.heap.size w w' := by
  go_enter Try.func91, Try.ntmps91
  go_wp2_with (go_at_call 74; refine (isWeight_any _ _).mono ?_; rintro e w' ⟨rfl, rfl⟩)
  go_ret
  exact ⟨rfl, Below.refl _ _⟩
theorem areAll_isWeight (A : Option Addr) (n c : Nat) (zs : List Int) (m : Int) (w : World) (h : Ints .i64 w A n c zs) :
    Calls Try.prog 57 #[.slice A n c, .int .i64 m, .func (.func 74) #[] #[]] w fun e w' => e = .returned (.bool (allB zs m weightB)) ∧ Below w.heap.size w w' :=
  areAll_any A n c zs m 74 weightB w h fun a z w hc => areAllCl_isWeight a z w hc
theorem areAllCl_isVote (a : Addr) (z : Int) (w : World) (hc : w.cell? a = some (.func (.func 69) #[] #[])) :
    Calls Try.prog 91 #[.int .i64 z, .pointer (some a)] w fun e w' => e = .returned (.bool (!voteB z)) ∧ Below w.heap.size w w' := by
  go_enter Try.func91, Try.ntmps91
  go_wp2_with (go_at_call 69; refine (isVote_any _ _).mono ?_; rintro e w' ⟨rfl, rfl⟩)
  go_ret
  exact ⟨rfl, Below.refl _ _⟩
theorem areAll_isVote (A : Option Addr) (n c : Nat) (zs : List Int) (m : Int) (w : World) (h : Ints .i64 w A n c zs) :
    Calls Try.prog 57 #[.slice A n c, .int .i64 m, .func (.func 69) #[] #[]] w fun e w' => e = .returned (.bool (allB zs m voteB)) ∧ Below w.heap.size w w' :=
  areAll_any A n c zs m 69 voteB w h fun a z w hc => areAllCl_isVote a z w hc
theorem areAllCl_implIsSeal (a : Addr) (z : Int) (w : World) (hc : w.cell? a = some (.func (.func 62) #[] #[])) :
    Calls Try.prog 91 #[.int .i64 z, .pointer (some a)] w fun e w' => e = .returned (.bool (!sealB z)) ∧ Below w.heap.size w w' := by
  go_enter Try.func91, Try.ntmps91
  go_wp2_with (go_at_call 62; refine (implIsSeal_any _ _).mono ?_; rintro e w' ⟨rfl, rfl⟩)
  go_ret
  exact ⟨rfl, Below.refl _ _⟩
theorem areAll_implIsSeal (A : Option Addr) (n c : Nat) (zs : List Int) (m : Int) (w : World) (h : Ints .i64 w A n c zs) :
    Calls Try.prog 57 #[.slice A n c, .int .i64 m, .func (.func 62) #[] #[]] w fun e w' => e = .returned (.bool (allB zs m sealB)) ∧ Below w.heap.size w w' :=
  areAll_any A n c zs m 62 sealB w h fun a z w hc => areAllCl_implIsSeal a z w hc
theorem l00In_weight (n : Int) (w : World) : Calls Try.prog 65 #[.int .i64 n, .int .i64 0, .int .i64 1000] w fun e w' => e = .returned (.bool (weightB n)) ∧ w = w' := l00In_any _ _ _ _
theorem l00In_mod (n : Int) (w : World) : Calls Try.prog 65 #[.int .i64 n, .int .i64 0, .int .i64 1000000006] w fun e w' => e = .returned (.bool (modB n)) ∧ w = w' := l00In_any _ _ _ _
theorem l09Exponents_any (A : Option Addr) (n c : Nat) (zs : List Int) (m : Int) (w : World) (h : Ints .i64 w A n c zs) :
    Calls Try.prog 67 #[.slice A n c, .int .i64 m] w fun e w' => e = .returned (.bool (allB zs m expB)) ∧ w = w' := by
  have hm := h.short
  have hl := Lib.hid h.1
  go_enter Try.func67, Try.ntmps67
  go_wp2
  go_loop [5] (fun i => ∃ k : Nat, k ≤ n ∧ i = .int .i64 k ∧ (zs.take k).all expB = true) (fun i => n - (intOf i).toNat)
  case atStart => exact ⟨0, Nat.zero_le _, rfl, rfl⟩
  case round =>
    obtain ⟨k, hk, rfl, hall⟩ := hrel
    have H := Lib.hid hall
    clear hall
    by_cases hlt : k < n
    · obtain ⟨b, off, z, rfl, hb, hcell, hz1, hz2, hz⟩ := h.at hlt
      cases hp : expB z
      · have HP := Lib.hid hp
        clear hp
        go_wp2_with (go_at_call 66; refine (l09Exponent_any _ _).mono ?_; rintro e w' ⟨rfl, rfl⟩; rw [show expB z = false from HP.out])
        go_ret
        exact ⟨ret_bool (allB_no (all_stop hz.out HP.out)).symm, rfl⟩
      · have HP := Lib.hid hp
        clear hp
        go_wp2_with (go_at_call 66; refine (l09Exponent_any _ _).mono ?_; rintro e w' ⟨rfl, rfl⟩; rw [show expB z = true from HP.out])
        go_round
        case rel => exact ⟨k + 1, by omega, by go_num, all_next hz.out H.out HP.out⟩
        case measure => simp [intOf]; omega
    · have HA : Hid (allB zs m expB = ((n : Int) == m)) := allB_yes hl.out (all_end (by rw [hl.out]; omega) H.out)
      go_wp2_with fail
      go_ret
      exact ⟨ret_bool HA.out.symm, rfl⟩
theorem l09Weights_any (A : Option Addr) (n c : Nat) (zs : List Int) (m : Int) (w : World) (h : Ints .i64 w A n c zs) :
    Calls Try.prog 101 #[.slice A n c, .int .i64 m] w fun e w' => e = .returned (.bool (allB zs m weightB)) ∧ w = w' := by
  have hm := h.short
  have hl := Lib.hid h.1
  go_enter Try.func101, Try.ntmps101
  go_wp2
  go_loop [5] (fun i => ∃ k : Nat, k ≤ n ∧ i = .int .i64 k ∧ (zs.take k).all weightB = true) (fun i => n - (intOf i).toNat)
  case atStart => exact ⟨0, Nat.zero_le _, rfl, rfl⟩
  case round =>
    obtain ⟨k, hk, rfl, hall⟩ := hrel
    have H := Lib.hid hall
    clear hall
    by_cases hlt : k < n
    · obtain ⟨b, off, z, rfl, hb, hcell, hz1, hz2, hz⟩ := h.at hlt
      cases hp : weightB z
      · have HP := Lib.hid hp
        clear hp
        go_wp2_with (go_at_call 65; refine (l00In_weight _ _).mono ?_; rintro e w' ⟨rfl, rfl⟩; rw [show weightB z = false from HP.out])
        go_ret
        exact ⟨ret_bool (allB_no (all_stop hz.out HP.out)).symm, rfl⟩
      · have HP := Lib.hid hp
        clear hp
        go_wp2_with (go_at_call 65; refine (l00In_weight _ _).mono ?_; rintro e w' ⟨rfl, rfl⟩; rw [show weightB z = true from HP.out])
        go_round
        case rel => exact ⟨k + 1, by omega, by go_num, all_next hz.out H.out HP.out⟩
        case measure => simp [intOf]; omega
    · have HA : Hid (allB zs m weightB = ((n : Int) == m)) := allB_yes hl.out (all_end (by rw [hl.out]; omega) H.out)
      go_wp2_with fail
      go_ret
      exact ⟨ret_bool HA.out.symm, rfl⟩
theorem l09Seals_any (A : Option Addr) (n c : Nat) (zs : List Int) (m : Int) (w : World) (h : Ints .i64 w A n c zs) :
    Calls Try.prog 93 #[.slice A n c, .int .i64 m] w fun e w' => e = .returned (.bool (allB zs m sealB)) ∧ w = w' := by
  have hm := h.short
  have hl := Lib.hid h.1
  go_enter Try.func93, Try.ntmps93
  go_wp2
  go_loop [5] (fun i => ∃ k : Nat, k ≤ n ∧ i = .int .i64 k ∧ (zs.take k).all sealB = true) (fun i => n - (intOf i).toNat)
  case atStart => exact ⟨0, Nat.zero_le _, rfl, rfl⟩
  case round =>
    obtain ⟨k, hk, rfl, hall⟩ := hrel
    have H := Lib.hid hall
    clear hall
    by_cases hlt : k < n
    · obtain ⟨b, off, z, rfl, hb, hcell, hz1, hz2, hz⟩ := h.at hlt
      cases hp : sealB z
      · have HP := Lib.hid hp
        clear hp
        go_wp2_with (go_at_call 92; refine (l09Seal_any _ _).mono ?_; rintro e w' ⟨rfl, rfl⟩; rw [show sealB z = false from HP.out])
        go_ret
        exact ⟨ret_bool (allB_no (all_stop hz.out HP.out)).symm, rfl⟩
      · have HP := Lib.hid hp
        clear hp
        go_wp2_with (go_at_call 92; refine (l09Seal_any _ _).mono ?_; rintro e w' ⟨rfl, rfl⟩; rw [show sealB z = true from HP.out])
        go_round
        case rel => exact ⟨k + 1, by omega, by go_num, all_next hz.out H.out HP.out⟩
        case measure => simp [intOf]; omega
    · have HA : Hid (allB zs m sealB = ((n : Int) == m)) := allB_yes hl.out (all_end (by rw [hl.out]; omega) H.out)
      go_wp2_with fail
      go_ret
      exact ⟨ret_bool HA.out.symm, rfl⟩
end Go.Proofs.Ytnjnngnagdhaiaa
