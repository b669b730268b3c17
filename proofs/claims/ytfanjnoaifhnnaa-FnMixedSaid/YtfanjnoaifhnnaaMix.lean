/- Contracts of what says whether an order and keys are those of a mix, of the program and of the model. -/
import Derived.Test.YtfanjnoaifhnnaaMixMath
import Derived.Test.YtfanjnoaifhnnaaSorted
import Derived.Test.YtfanjnoaifhnnaaApp
import Derived.Test.YtfanjnoaifhnnaaCount
import Derived.Test.YtfanjnoaifhnnaaFrac
import Derived.WalkLawsBesides
import Derived.Lib.SliceRun
namespace Go.Proofs.Ytfanjnoaifhnnaa
set_option linter.unusedVariables false
set_option maxRecDepth 100000
open Go.RowKit
theorem clone64_any (A : Option Addr) (n c : Nat) (zs : List Int) (w : World) (h : Ints .i64 w A n c zs) (hn : n ≤ 1048576) :
    Calls Try.prog 93 #[.slice A n c] w fun e w' => ∃ A' c', e = .returned (.slice A' n c') ∧ OwnI w' w.heap.size A' n c' zs ∧ Below w.heap.size w w' := by
  have NE : ∀ (a : Option Addr) (n c n' c' : Nat) (W : World), (binOp .eql 22 (.slice a n c) (.slice none n' c')).run Try.prog W = .ok (.bool a.isNone) W := fun a n c n' c' W => Lib.run_eql_slice_nil W 22 2 a n c n' c' Try.underlying22
  rcases A with _ | a
  · have h0 : n = 0 := by
      rcases Nat.eq_zero_or_pos n with h0 | h0
      · exact h0
      · obtain ⟨b, off, e, _⟩ := h.2.2.2.2 h0; cases e
    subst h0
    have hz : zs = [] := List.eq_nil_of_length_eq_zero h.1
    subst hz
    go_enter Try.func93, Try.ntmps93
    go_wp2_with fail
    go_ret
    exact ⟨none, 0, rfl, ownI_nil _ _, Below.refl _ _⟩
  · have ho := ownI_lit w
    have hb := bel_alloc w (.cells #[] 2)
    have hi := h.below hb
    have hsz : w.heap.size ≤ (w.alloc (.cells #[] 2)).heap.size := by simp
    go_enter Try.func93, Try.ntmps93
    go_wp2_with (at_builtin; refine app_ints _ rfl _ _ rfl w.heap.size (some ⟨w.heap.size, 0, none⟩) 0 0 [] rfl ho (some a) n c c zs rfl hi (by omega) hn hsz ?_; intro A' c' w1 p1 p2 p3)
    rw [Nat.zero_add] at *
    go_ret
    exact ⟨A', c', rfl, by simpa using p1, (hb.grown p2 hsz (fun k hk => by simp [Value.ownBlock] at hk; omega))⟩
def SetB (b : Bool) (zs : List Int) (m : Int) : Prop := b = true ↔ SetP zs m
def SetEnd (zs : List Int) (m : Int) (w : World) (e : Ending) (w' : World) : Prop := ∃ b, e = .returned (.bool b) ∧ SetB b zs m ∧ w = w'
theorem isSet_any (A : Option Addr) (n c : Nat) (zs : List Int) (m : Int) (w : World) (h : Ints .i64 w A n c zs) (hm : -9223372036854775807 ≤ m) (hm2 : m ≤ 9223372036854775807) :
    Calls Try.prog 94 #[.slice A n c, .int .i64 m] w (SetEnd zs m w) := by
  have hs := h.short
  have hl := Lib.hid h.1
  go_enter Try.func94, Try.ntmps94
  go_wp2_with fail
  go_loop [9] (fun i => ∃ k : Nat, k ≤ n ∧ i = .int .i64 k ∧ SetP (zs.take k) m) (fun i => n - (intOf i).toNat)
  case atStart => exact ⟨0, Nat.zero_le _, rfl, by simpa using SetP.nil m⟩
  case round =>
    obtain ⟨k, hk, rfl, hset⟩ := hrel
    have HS := Lib.hid hset
    clear hset
    by_cases hlt : k < n
    · obtain ⟨b, off, z, rfl, hb, hcell, hz1, hz2, hz⟩ := h.at hlt
      cases hr : inR z 0 (m - 1)
      · have HR := Lib.hid hr
        have NO : Hid ((false = true) ↔ SetP zs m) := by
          show _ ↔ _
          constructor
          · intro h; cases h
          · intro h; exact absurd ((h.bad hz.out).1) (inR_false.1 hr)
        clear hr
        go_wp2_with fail
        refine (within_val HR.out _).mono ?_
        rintro e w1 ⟨rfl, rfl⟩
        go_wp2_with fail
        go_ret
        exact ⟨false, rfl, NO.out, rfl⟩
      · have HR := Lib.hid hr
        have hri := inR_true.1 hr
        clear hr
        rcases Nat.eq_zero_or_pos k with h0 | h0
        · subst h0
          rw [Nat.add_zero] at hcell
          have HN := Lib.hid (HS.out.next hz.out hri (fun x h0 => absurd h0 (by omega)))
          go_wp2_with fail
          refine (within_val HR.out _).mono ?_
          rintro e w1 ⟨rfl, rfl⟩
          go_wp2_with fail
          go_round
          case rel => exact ⟨1, by omega, by go_num, HN.out⟩
          case measure => simp [intOf]; omega
        · obtain ⟨k, rfl⟩ : ∃ k', k = k' + 1 := ⟨k - 1, by omega⟩
          obtain ⟨_, _, x, ea, hb2, cx, x1, x2, hx⟩ := h.at (j := k) (by omega)
          simp only [Option.some.injEq, Addr.mk.injEq, and_true] at ea
          obtain ⟨rfl, rfl⟩ := ea
          rw [Int.natCast_add, Int.natCast_one]
          by_cases hxz : x < z
          · have HN := Lib.hid (HS.out.next hz.out hri (fun y _ hy => by
              rw [Nat.add_sub_cancel, hx.out] at hy
              injection hy with hy
              omega))
            go_wp2_with fail
            refine (within_val HR.out _).mono ?_
            rintro e w1 ⟨rfl, rfl⟩
            go_wp2_with fail
            go_round
            case rel => exact ⟨k + 2, by omega, by go_num, HN.out⟩
            case measure => simp [intOf]; omega
          · have NO : Hid ((false = true) ↔ SetP zs m) := by
              show _ ↔ _
              constructor
              · intro h; cases h
              · intro h; exact absurd ((h.bad hz.out).2 x (by omega) (by rw [Nat.add_sub_cancel]; exact hx.out)) hxz
            go_wp2_with fail
            refine (within_val HR.out _).mono ?_
            rintro e w1 ⟨rfl, rfl⟩
            go_wp2_with fail
            go_ret
            exact ⟨false, rfl, NO.out, rfl⟩
    · have HE : Hid (SetP zs m) := by
        show SetP _ _
        have := HS.out
        rwa [List.take_of_length_le (by rw [hl.out]; omega)] at this
      go_wp2_with fail
      go_ret
      exact ⟨true, rfl, ⟨fun _ => HE.out, fun _ => rfl⟩, rfl⟩
set_option maxRecDepth 100000 in
theorem indexRows_mix (A : Option Addr) (n c : Nat) (zss : List (List Int)) (p : List Int → Bool) (w : World) (h : Rws w A n c zss)
   (hf : Hid (∀ (zs : List Int) (B : Option Addr) (m d : Nat) (wr : World), Ints .i64 wr B m d zs → Calls Try.prog 95 #[.slice B m d] wr fun e w' => e = .returned (.bool (p zs)) ∧ Below wr.heap.size wr w')) :
    Calls Try.prog 97 #[.slice A n c, .func (.func 95) #[] #[]] w (SomeIdx (zss.any p) w) := by
  have hm := h.short
  have hle : zss.length ≤ n := by have := h.1; omega
  go_enter Try.func97, Try.ntmps97
  go_wp2_with fail
  go_loopw [5, 8] (fun i j wr => ∃ k : Nat, k ≤ n ∧ j = .int .i64 k ∧ (zss.take k).any p = false ∧ Below w.heap.size w wr) (fun _ j _ => n - (intOf j).toNat)
  case atStart => exact ⟨0, Nat.zero_le _, rfl, rfl, Below.refl _ _⟩
  case round =>
    obtain ⟨k, hk, rfl, hall, hbel⟩ := hrel
    have H := Lib.hid hall
    clear hall
    by_cases hlt : k < n
    · obtain ⟨b, off, A', m, c', zs, rfl, hb, hcell, hi, hz⟩ := (h.below hbel).at hlt
      have hcall := Lib.hid (hf.out zs A' m c' wr hi)
      clear hi
      cases hp : p zs
      · have HP := Lib.hid hp
        clear hp
        go_wp2_with fail
        refine hcall.out.mono ?_
        rintro e w' ⟨rfl, hb2⟩
        rw [HP.out]
        have hb3 := bel_trans hbel hb2
        clear hb2
        go_wp2_with fail
        go_roundw
        case rel => exact ⟨k + 1, by omega, by go_num, any_next hz.out H.out HP.out, hb3⟩
        case measure => simp [intOf]; omega
      · have HP := Lib.hid hp
        clear hp
        go_wp2_with fail
        refine hcall.out.mono ?_
        rintro e w' ⟨rfl, hb2⟩
        rw [HP.out]
        have hb3 := bel_trans hbel hb2
        clear hb2
        go_wp2_with fail
        go_ret
        exact ⟨_, rfl, by rw [any_stop hz.out HP.out]; simp [IdxIs], hb3⟩
    · go_wp2_with fail
      go_ret
      exact ⟨_, rfl, by rw [any_end (by omega) H.out]; simp [IdxIs], hbel⟩
theorem containsRows_mix (A : Option Addr) (n c : Nat) (zss : List (List Int)) (p : List Int → Bool) (w : World) (h : Rws w A n c zss)
   (hf : Hid (∀ (zs : List Int) (B : Option Addr) (m d : Nat) (wr : World), Ints .i64 wr B m d zs → Calls Try.prog 95 #[.slice B m d] wr fun e w' => e = .returned (.bool (p zs)) ∧ Below wr.heap.size wr w')) :
    Calls Try.prog 63 #[.slice A n c, .func (.func 95) #[] #[]] w (fun e w' => e = .returned (.bool (zss.any p)) ∧ Below w.heap.size w w') := by
  go_enter Try.func63, Try.ntmps63
  go_wp2_with fail
  refine (indexRows_mix A n c zss p w h hf).mono ?_
  rintro e w' ⟨r, rfl, hr, hb⟩
  go_wp2_with fail
  go_ret
  exact ⟨ret_bool hr, hb⟩
theorem isMix1_any (zs : List Int) (B : Option Addr) (m d : Nat) (w : World) (h : Ints .i64 w B m d zs) :
    Calls Try.prog 95 #[.slice B m d] w fun e w' => e = .returned (.bool (!allB zs 3 expB)) ∧ Below w.heap.size w w' := by
  go_enter Try.func95, Try.ntmps95
  go_wp2_with fail
  refine (areAll_isExponent B m d zs 3 _ h).mono ?_
  rintro e w1 ⟨rfl, b1⟩
  go_wp2_with fail
  go_ret
  exact ⟨rfl, b1⟩
theorem any_not_all (kss : List (List Int)) : (kss.any fun l => !allB l 3 expB) = !keysB kss := by
  unfold keysB
  induction kss with
  | nil => rfl
  | cons z t ih => simp only [List.any_cons, List.all_cons, ih, Bool.not_and]
set_option maxHeartbeats 1000000 in
theorem isMix_any (A : Option Addr) (n c : Nat) (os : List Int) (B : Option Addr) (m d : Nat) (kss : List (List Int)) (q : Nat) (w : World) (h : Ints .i64 w A n c os) (k : Rws w B m d kss) (hn : n ≤ 1048576) (hq : q ≤ 1048576) :
    Calls Try.prog 59 #[.slice A n c, .slice B m d, .int .i64 q] w fun e w' => e = .returned (.bool (mixB os kss q)) ∧ Below w.heap.size w w' := by
  have hl := Lib.hid h.1
  have kl := Lib.hid k.1
  have hm := k.short
  have MB : Hid (mixB os kss q = (decide (q ≤ 12) && decide (n = q) && decide (m = q) && hasB os q && keysB kss)) := by show _ = _; unfold mixB; rw [hl.out, kl.out]
  go_enter Try.func59, Try.ntmps59
  go_wp2_with fail
  refine (clone64_any A n c os _ h hn).mono ?_
  rintro e w1 ⟨A1, c1, rfl, o1, b1⟩
  go_wp2_with fail
  refine (sort64_any w.heap.size A1 n c1 os _ o1 hn).mono ?_
  rintro e w2 ⟨rfl, o2, g2⟩
  have b2 : Below w.heap.size w w2 := b1.grown g2 b1.size (fun x hx => by have := (o1.block x hx).1; omega)
  have O2 := Lib.hid o2.ints
  have K2 := Lib.hid (k.below b2)
  clear o1 o2
  by_cases e1 : n = q
  · subst e1
    have q1 : ((n : Int) != (n : Int)) = false := by simp
    have SS := Lib.hid (sorted_set (os := os) (n := n) hl.out)
    by_cases e2 : m = n
    · subst e2
      have q2 : ((m : Int) != (m : Int)) = false := by simp
      go_wp2_with fail
      refine (isSet_any A1 m c1 _ m _ O2.out (by omega) (by omega)).mono ?_
      rintro e w3 ⟨b, rfl, hb, rfl⟩
      unfold SetB at hb
      rw [SS.out] at hb
      have HB : Hid (hasB os m = b) := by
        show _ = _
        cases b
        · cases hh : hasB os m
          · rfl
          · exact absurd (hb.2 hh) (by simp)
        · exact hb.1 rfl
      clear hb
      cases b
      · have R : Hid (mixB os kss m = false) := by show _ = _; rw [MB.out, HB.out]; simp
        go_wp2_with fail
        go_ret
        exact ⟨ret_bool R.out.symm, b2⟩
      · by_cases e3 : m ≤ 12
        · have R : Hid (mixB os kss m = keysB kss) := by show _ = _; rw [MB.out, HB.out]; simp [e3]
          have AN := Lib.hid (any_not_all kss)
          go_wp2_with fail
          refine (containsRows_mix B m d kss (fun l => !allB l 3 expB) _ K2.out (Lib.hid (fun zs B m d wr hi => isMix1_any zs B m d wr hi))).mono ?_
          rintro e w4 ⟨rfl, b4⟩
          rw [AN.out]
          go_wp2_with fail
          go_ret
          exact ⟨ret_bool (by rw [R.out]), bel_trans b2 b4⟩
        · have R : Hid (mixB os kss m = false) := by show _ = _; rw [MB.out]; simp [e3]
          go_wp2_with fail
          go_ret
          exact ⟨ret_bool R.out.symm, b2⟩
    · have q2 : ((m : Int) != (n : Int)) = true := by simp; omega
      have R : Hid (mixB os kss n = false) := by show _ = _; rw [MB.out]; simp [e2]
      go_wp2_with fail
      go_ret
      exact ⟨ret_bool R.out.symm, b2⟩
  · have q1 : ((n : Int) != (q : Int)) = true := by simp; omega
    have R : Hid (mixB os kss q = false) := by show _ = _; rw [MB.out]; simp [e1]
    go_wp2_with fail
    go_ret
    exact ⟨ret_bool R.out.symm, b2⟩
theorem l00Has_any (A : Option Addr) (n c : Nat) (zs : List Int) (x : Int) (w : World) (h : Ints .i64 w A n c zs) :
    Calls Try.prog 119 #[.slice A n c, .int .i64 x] w fun e w' => e = .returned (.bool (zs.any (· == x))) ∧ w = w' := by
  have hm := h.short
  have hl := Lib.hid h.1
  go_enter Try.func119, Try.ntmps119
  go_wp2_with fail
  go_loop [5] (fun i => ∃ k : Nat, k ≤ n ∧ i = .int .i64 k ∧ (zs.take k).any (· == x) = false) (fun i => n - (intOf i).toNat)
  case atStart => exact ⟨0, Nat.zero_le _, rfl, rfl⟩
  case round =>
    obtain ⟨k, hk, rfl, hany⟩ := hrel
    have HA := Lib.hid hany
    clear hany
    by_cases hlt : k < n
    · obtain ⟨b, off, z, rfl, hb, hcell, hz1, hz2, hz⟩ := h.at hlt
      by_cases hzx : z = x
      · have hq : (z == x) = true := by simp [hzx]
        have R := Lib.hid (any_stop (p := (· == x)) hz.out hq)
        clear hzx
        go_wp2_with fail
        go_ret
        exact ⟨ret_bool R.out.symm, rfl⟩
      · have hq : (z == x) = false := by simpa using hzx
        have R := Lib.hid (any_next (p := (· == x)) hz.out HA.out hq)
        clear hzx
        go_wp2_with fail
        go_round
        case rel => exact ⟨k + 1, by omega, by go_num, R.out⟩
        case measure => simp [intOf]; omega
    · have R := Lib.hid (any_end (p := (· == x)) (by rw [hl.out]; omega) HA.out)
      go_wp2_with fail
      go_ret
      exact ⟨ret_bool R.out.symm, rfl⟩
theorem l09Order_any (A : Option Addr) (n c : Nat) (os : List Int) (w : World) (h : Ints .i64 w A n c os) :
    Calls Try.prog 91 #[.slice A n c] w fun e w' => e = .returned (.bool (hasB os n)) ∧ w = w' := by
  have hm := h.short
  go_enter Try.func91, Try.ntmps91
  go_wp2_with fail
  go_loop [3] (fun i => ∃ k : Nat, k ≤ n ∧ i = .int .i64 k ∧ hasB os k = true) (fun i => n - (intOf i).toNat)
  case atStart => exact ⟨0, Nat.zero_le _, rfl, by simp [hasB]⟩
  case round =>
    obtain ⟨k, hk, rfl, hh⟩ := hrel
    have HH := Lib.hid hh
    clear hh
    by_cases hlt : k < n
    · cases ha : os.any (· == (k : Int))
      · have HA := Lib.hid ha
        have R : Hid (hasB os n = false) := by
          show _ = _
          unfold hasB
          rw [List.all_eq_false]
          exact ⟨k, List.mem_range.2 hlt, by rw [ha]; simp⟩
        clear ha
        go_wp2_with fail
        refine (l00Has_any A n c os (k : Int) _ h).mono ?_
        rintro e w1 ⟨rfl, rfl⟩
        rw [HA.out]
        go_wp2_with fail
        go_ret
        exact ⟨ret_bool R.out.symm, rfl⟩
      · have HA := Lib.hid ha
        have R : Hid (hasB os (k + 1) = true) := by
          show _ = _
          have := HH.out
          unfold hasB at this ⊢
          rw [List.range_succ, List.all_append, this]
          simp only [List.all_cons, List.all_nil, ha]
          rfl
        clear ha
        go_wp2_with fail
        refine (l00Has_any A n c os (k : Int) _ h).mono ?_
        rintro e w1 ⟨rfl, rfl⟩
        rw [HA.out]
        go_wp2_with fail
        go_round
        case rel => exact ⟨k + 1, by omega, by go_num, R.out⟩
        case measure => simp [intOf]; omega
    · obtain rfl : n = k := by omega
      go_wp2_with fail
      go_ret
      exact ⟨ret_bool HH.out.symm, rfl⟩
theorem l09Lists_any (B : Option Addr) (m d : Nat) (kss : List (List Int)) (q : Int) (w : World) (h : Rws w B m d kss) :
    Calls Try.prog 92 #[.slice B m d, .int .i64 q] w fun e w' => e = .returned (.bool (keysB kss && ((m : Int) == q))) ∧ w = w' := by
  have hm := h.short
  have hl := Lib.hid h.1
  go_enter Try.func92, Try.ntmps92
  go_wp2_with fail
  go_loop [5] (fun i => ∃ k : Nat, k ≤ m ∧ i = .int .i64 k ∧ keysB (kss.take k) = true) (fun i => m - (intOf i).toNat)
  case atStart => exact ⟨0, Nat.zero_le _, rfl, rfl⟩
  case round =>
    obtain ⟨k, hk, rfl, hall⟩ := hrel
    have H := Lib.hid hall
    clear hall
    by_cases hlt : k < m
    · obtain ⟨b, off, A', n', c', zs, rfl, hb, hcell, hi, hz⟩ := h.at hlt
      have EX := Lib.hid (l09Exponents_any A' n' c' zs 3 w hi)
      clear hi
      cases hp : allB zs 3 expB
      · have HP := Lib.hid hp
        clear hp
        go_wp2_with fail
        refine EX.out.mono ?_
        rintro e w1 ⟨rfl, rfl⟩
        rw [HP.out]
        go_wp2_with fail
        go_ret
        exact ⟨ret_bool (by rw [show keysB kss = false from all_stop hz.out HP.out]; rfl), rfl⟩
      · have HP := Lib.hid hp
        clear hp
        go_wp2_with fail
        refine EX.out.mono ?_
        rintro e w1 ⟨rfl, rfl⟩
        rw [HP.out]
        go_wp2_with fail
        go_round
        case rel => exact ⟨k + 1, by omega, by go_num, all_next (p := fun l => allB l 3 expB) hz.out H.out HP.out⟩
        case measure => simp [intOf]; omega
    · have HA : Hid (keysB kss = true) := all_end (p := fun l => allB l 3 expB) (by rw [hl.out]; omega) H.out
      go_wp2_with fail
      go_ret
      exact ⟨ret_bool (by rw [HA.out]; rfl), rfl⟩
theorem l09Mix_any (A : Option Addr) (n c : Nat) (os : List Int) (B : Option Addr) (m d : Nat) (kss : List (List Int)) (q : Nat) (w : World) (h : Ints .i64 w A n c os) (k : Rws w B m d kss) (hq : q ≤ 1048576) :
    Calls Try.prog 58 #[.slice A n c, .slice B m d, .int .i64 q] w fun e w' => e = .returned (.bool (mixB os kss q)) ∧ w = w' := by
  have hl := Lib.hid h.1
  have kl := Lib.hid k.1
  have hm := k.short
  have hn := h.short
  have MB : Hid (mixB os kss q = (decide (q ≤ 12) && decide (n = q) && decide (m = q) && hasB os q && keysB kss)) := by show _ = _; unfold mixB; rw [hl.out, kl.out]
  have LO := Lib.hid (l09Order_any A n c os w h)
  have LL := Lib.hid (l09Lists_any B m d kss (q : Int) w k)
  clear h k
  by_cases e3 : q ≤ 12
  · by_cases e1 : n = q
    · subst e1
      have q1 : ((n : Int) == (n : Int)) = true := by simp
      cases hh : hasB os n
      · have HH := Lib.hid hh
        have R : Hid (mixB os kss n = false) := by show _ = _; rw [MB.out, hh]; simp
        clear hh
        go_enter Try.func58, Try.ntmps58
        go_wp2_with fail
        refine LO.out.mono ?_
        rintro e w1 ⟨rfl, rfl⟩
        rw [HH.out]
        go_wp2_with fail
        go_ret
        exact ⟨ret_bool R.out.symm, rfl⟩
      · have HH := Lib.hid hh
        have R : Hid (mixB os kss n = (keysB kss && ((m : Int) == (n : Int)))) := by
          show _ = _
          rw [MB.out, hh]
          have h2 : decide (m = n) = ((m : Int) == (n : Int)) := by
            by_cases hmn : m = n
            · simp [hmn]
            · have : ¬ (m : Int) = n := by omega
              simp [hmn, this]
          have h3 : decide (n ≤ 12) = true := by simp; omega
          rw [h2, h3]
          simp [Bool.and_comm]
        clear hh
        go_enter Try.func58, Try.ntmps58
        go_wp2_with fail
        refine LO.out.mono ?_
        rintro e w1 ⟨rfl, rfl⟩
        rw [HH.out]
        go_wp2_with fail
        refine LL.out.mono ?_
        rintro e w1 ⟨rfl, rfl⟩
        go_wp2_with fail
        go_ret
        exact ⟨ret_bool R.out.symm, rfl⟩
    · have q1 : ((n : Int) == (q : Int)) = false := by simp; omega
      have R : Hid (mixB os kss q = false) := by show _ = _; rw [MB.out]; simp [e1]
      go_enter Try.func58, Try.ntmps58
      go_wp2_with fail
      go_ret
      exact ⟨ret_bool R.out.symm, rfl⟩
  · have R : Hid (mixB os kss q = false) := by show _ = _; rw [MB.out]; simp [e3]
    go_enter Try.func58, Try.ntmps58
    go_wp2_with fail
    go_ret
    exact ⟨ret_bool R.out.symm, rfl⟩
end Go.Proofs.Ytfanjnoaifhnnaa
