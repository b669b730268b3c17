/- Lists of trusted members: the program's test and the reference's. -/
import Derived.Test.YtcoladhppbknnaaApp
import Derived.Test.YtcoladhppbknnaaFrac
import Derived.Test.YtcoladhppbknnaaPhase
import Derived.Test.YtcoladhppbknnaaSkip
import Derived.Test.YtcoladhppbknnaaSen
namespace Go.Proofs.Ytcoladhppbknnaa
set_option linter.unusedVariables false
set_option linter.unusedSimpArgs false
set_option maxRecDepth 100000
open Go.RowKit Go.Deep
def trK (ts : List Int) (m n : Int) (k : Nat) : Bool := inR (ts.getD k 0) 0 (n - 1) && !decide (ts.getD k 0 = m) && !((ts.take k).any (· == ts.getD k 0))
def trB (ts : List Int) (m n : Int) : Bool := (List.range ts.length).all (trK ts m n) && decide (ts.length ≤ 4)
theorem trB_no {ts : List Int} {m n : Int} {k : Nat} (hk : k < ts.length) (h : trK ts m n k = false) : trB ts m n = false := by
  unfold trB
  rw [rng_no (p := trK ts m n) hk h, Bool.false_and]
theorem trB_end {ts : List Int} {m n : Int} (h : (List.range ts.length).all (trK ts m n) = true) : trB ts m n = decide (ts.length ≤ 4) := by
  unfold trB
  rw [h, Bool.true_and]
theorem trK_at {ts : List Int} {m n t : Int} {k : Nat} (h : ts[k]? = some t) : trK ts m n k = (inR t 0 (n - 1) && !decide (t = m) && !((ts.take k).any (· == t))) := by
  have : ts.getD k 0 = t := by rw [List.getD_eq_getElem?_getD, h]; rfl
  unfold trK
  rw [this]
theorem index_any (A : Option Addr) (n c : Nat) (zs : List Int) (x : Int) (w : World) (h : Ints .i64 w A n c zs) :
    Calls Try.prog 122 #[.slice A n c, .int .i64 x] w fun e w' => ∃ r : Int, e = .returned (.int .i64 r) ∧ decide (0 ≤ r) = zs.any (· == x) ∧ w = w' := by
  have hm := h.short
  have hl := Lib.hid h.1
  go_enter Try.func122, Try.ntmps122
  go_wp2_with fail
  go_loop [8] (fun t => ∃ k : Nat, k ≤ n ∧ t = .int .i64 k ∧ Hid ((zs.take k).any (· == x) = false)) (fun t => n - (intOf t).toNat)
  case atStart => exact ⟨0, Nat.zero_le _, rfl, rfl⟩
  case round =>
    obtain ⟨k, hk, rfl, HA⟩ := hrel
    by_cases hlt : k < n
    · obtain ⟨b, off, z, rfl, hb, hcell, hz1, hz2, hz⟩ := h.at hlt
      have d0 := decide_eq_true (show (k : Int) < (n : Int) by omega)
      have k0 : (0 : Int) ≤ (k : Int) := by omega
      have k1 : (k : Int) < (n : Int) := by omega
      by_cases hzx : z = x
      · have hq : (z == x) = true := by simp [hzx]
        have R := Lib.hid (any_stop (p := (· == x)) hz.out hq)
        have e1 : (x == z) = true := by simp [hzx]
        clear hzx
        go_wp2_with fail
        go_ret
        exact ⟨k, rfl, by rw [R.out]; exact decide_eq_true (by omega), rfl⟩
      · have hq : (z == x) = false := by simpa using hzx
        have e1 : (x == z) = false := by simpa using fun e => hzx e.symm
        have R := Lib.hid (any_next (p := (· == x)) hz.out HA.out hq)
        clear hzx
        go_wp2_with fail
        go_round
        case rel => exact ⟨k + 1, by omega, by go_num, R.out⟩
        case measure => simp [intOf]; omega
    · obtain rfl : k = n := by omega
      have d0 := decide_eq_false (show ¬ (k : Int) < (k : Int) by omega)
      have R := Lib.hid (any_end (p := (· == x)) (by rw [hl.out]; omega) HA.out)
      go_wp2_with fail
      go_ret
      exact ⟨-1, rfl, by rw [R.out]; rfl, rfl⟩
theorem contains_any (A : Option Addr) (n c : Nat) (zs : List Int) (x : Int) (w : World) (h : Ints .i64 w A n c zs) :
    Calls Try.prog 95 #[.slice A n c, .int .i64 x] w fun e w' => e = .returned (.bool (zs.any (· == x))) ∧ w = w' := by
  go_enter Try.func95, Try.ntmps95
  go_wp2_with fail
  refine (index_any A n c zs x w h).mono ?_
  rintro e w1 ⟨r, rfl, hr, rfl⟩
  have R := Lib.hid hr
  by_cases h0 : 0 ≤ r
  · have d := decide_eq_true h0
    rw [d] at R
    clear hr h0
    go_wp2_with fail
    go_ret
    exact ⟨ret_bool R.out, rfl⟩
  · have d := decide_eq_false h0
    rw [d] at R
    clear hr h0
    go_wp2_with fail
    go_ret
    exact ⟨ret_bool R.out, rfl⟩
theorem l00Has_any (A : Option Addr) (n c : Nat) (zs : List Int) (x : Int) (w : World) (h : Ints .i64 w A n c zs) :
    Calls Try.prog 120 #[.slice A n c, .int .i64 x] w fun e w' => e = .returned (.bool (zs.any (· == x))) ∧ w = w' := by
  have hm := h.short
  have hl := Lib.hid h.1
  go_enter Try.func120, Try.ntmps120
  go_wp2_with fail
  go_loop [5] (fun i => ∃ k : Nat, k ≤ n ∧ i = .int .i64 k ∧ (zs.take k).any (· == x) = false) (fun i => n - (intOf i).toNat)
  case atStart => exact ⟨0, Nat.zero_le _, rfl, rfl⟩
  case round =>
    obtain ⟨k, hk, rfl, hany⟩ := hrel
    have HA := Lib.hid hany
    clear hany
    by_cases hlt : k < n
    · obtain ⟨b, off, z, rfl, hb, hcell, hz1, hz2, hz⟩ := h.at hlt
      by_cases hzx : z = x
      · have hq : (z == x) = true := by simp [hzx]
        have R := Lib.hid (any_stop (p := (· == x)) hz.out hq)
        clear hzx
        go_wp2_with fail
        go_ret
        exact ⟨ret_bool R.out.symm, rfl⟩
      · have hq : (z == x) = false := by simpa using hzx
        have R := Lib.hid (any_next (p := (· == x)) hz.out HA.out hq)
        clear hzx
        go_wp2_with fail
        go_round
        case rel => exact ⟨k + 1, by omega, by go_num, R.out⟩
        case measure => simp [intOf]; omega
    · have R := Lib.hid (any_end (p := (· == x)) (by rw [hl.out]; omega) HA.out)
      go_wp2_with fail
      go_ret
      exact ⟨ret_bool R.out.symm, rfl⟩
theorem areTrusted_any (A : Option Addr) (q c : Nat) (ts : List Int) (m n : Int) (hn : 0 ≤ n ∧ n ≤ 1000000) (w : World) (h : Ints .i64 w A q c ts) :
    Calls Try.prog 43 #[.slice A q c, .int .i64 m, .int .i64 n] w fun e w' => e = .returned (.bool (trB ts m n)) ∧ w = w' := by
  have hq := h.short
  have hqc := h.2.1
  obtain rfl : ts.length = q := h.1
  have H := Lib.hid h
  have wn : IntKind.i64.wrap (n - 1) = n - 1 := IntWalk.i64_in _ (by omega)
  clear h
  go_enter Try.func43, Try.ntmps43
  go_wp2_with fail
  go_loop [11] (fun i => ∃ k : Nat, k ≤ ts.length ∧ i = .int .i64 k ∧ (List.range k).all (trK ts m n) = true) (fun i => ts.length - (intOf i).toNat)
  case atStart => exact ⟨0, Nat.zero_le _, rfl, rfl⟩
  case round =>
    obtain ⟨k, hk, rfl, hall⟩ := hrel
    have HA := Lib.hid hall
    clear hall
    by_cases hlt : k < ts.length
    · have d0 := decide_eq_true (show (k : Int) < (ts.length : Int) by omega)
      have k0 : (0 : Int) ≤ (k : Int) := by omega
      have k1 : (k : Int) < (ts.length : Int) := by omega
      obtain ⟨b, off, t, rfl, hb, hcell, ht1, ht2, ht⟩ := H.out.at hlt
      have TK := Lib.hid (trK_at (m := m) (n := n) ht.out)
      have HF := Lib.hid (H.out.front (k := k) (by omega))
      go_wp2_with fail
      refine (within_any t 0 (n - 1) _).mono ?_
      rintro e w1 ⟨rfl, rfl⟩
      cases hin : inR t 0 (n - 1)
      · have NO := Lib.hid (trB_no hlt (by rw [TK.out, hin]; rfl))
        clear hin
        go_wp2_with fail
        go_ret
        exact ⟨by rw [NO.out]; rfl, rfl⟩
      by_cases htm : t = m
      · have NO := Lib.hid (trB_no hlt (by rw [TK.out, hin]; simp [htm]))
        have e1 : (t == m) = true := by simp [htm]
        clear hin htm
        go_wp2_with fail
        go_ret
        exact ⟨by rw [NO.out]; rfl, rfl⟩
      have e1 : (t == m) = false := by simp [htm]
      have T2 := Lib.hid (TK.out.trans (by rw [hin]; simp [htm] : _ = !((ts.take k).any (· == t))))
      have kc : k ≤ c := by omega
      clear hin htm TK
      go_wp2_with fail
      refine (contains_any _ k c (ts.take k) t _ HF.out).mono ?_
      rintro e w1 ⟨rfl, rfl⟩
      cases hh : (ts.take k).any (· == t)
      · have YES := Lib.hid (rng_next HA.out (by rw [T2.out, hh]; rfl))
        clear hh
        go_wp2_with fail
        go_round
        case rel => exact ⟨k + 1, by omega, by go_num, YES.out⟩
        case measure => simp [intOf]; omega
      · have NO := Lib.hid (trB_no hlt (by rw [T2.out, hh]; rfl))
        clear hh
        go_wp2_with fail
        go_ret
        exact ⟨by rw [NO.out]; rfl, rfl⟩
    · obtain rfl : ts.length = k := by omega
      have R := Lib.hid (trB_end HA.out)
      have d0 := decide_eq_false (show ¬ (ts.length : Int) < (ts.length : Int) by omega)
      by_cases h4 : ts.length ≤ 4
      · have d1 := decide_eq_true (show (ts.length : Int) ≤ 4 by omega)
        have R1 := Lib.hid (R.out.trans (decide_eq_true h4))
        clear h4
        go_wp2_with fail
        go_ret
        exact ⟨by rw [R1.out]; rfl, rfl⟩
      · have d1 := decide_eq_false (show ¬ (ts.length : Int) ≤ 4 by omega)
        have R1 := Lib.hid (R.out.trans (decide_eq_false h4))
        clear h4
        go_wp2_with fail
        go_ret
        exact ⟨by rw [R1.out]; rfl, rfl⟩
end Go.Proofs.Ytcoladhppbknnaa
