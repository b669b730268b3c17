/- The reference's strategy for an argument. -/
import Derived.Test.YteejfjgofpolkaaStrat2
namespace Go.Proofs.Yteejfjgofpolkaa
set_option linter.unusedVariables false
set_option linter.unusedSimpArgs false
set_option maxRecDepth 100000
open Go.RowKit Go.Deep
theorem l00Max0_any (z : Int) (w : World) : Calls Try.prog 74 #[.int .i64 0, .int .i64 z] w fun e w' => e = .returned (.int .i64 (if z < 0 then 0 else z)) ∧ w = w' := by
  by_cases h : z < 0
  · have hd := decide_eq_true h
    rw [if_pos h]
    go_enter Try.func74, Try.ntmps74
    go_wp2_with fail
    go_ret
    exact ⟨rfl, rfl⟩
  · have hd := decide_eq_false h
    rw [if_neg h]
    go_enter Try.func74, Try.ntmps74
    go_wp2_with fail
    go_ret
    exact ⟨rfl, rfl⟩
set_option maxHeartbeats 2000000 in
theorem l08Reply_ok (n : Nat) (es : List (Nat × Nat)) (ok : FrOk n es) (R : Nat → Int) (hR : ∀ q, 0 ≤ R q) (a : Nat) (ha : a < n) (g : Nat) (A : Option Addr) (c : Nat) (w : World) (h : Gr w g n es) (hr : Ints .i64 w A n c (lst n R)) :
    Calls Try.prog 75 #[.pointer (some ⟨g, 0, none⟩), .slice A n c, .int .i64 a] w fun e w' => e = .returned (.int .i64 (rp (attM es a) R n)) ∧ Below w.heap.size w w' := by
  have H := Lib.hid h
  have IR := Lib.hid hr
  have n10 := ok.n10
  have OK := Lib.hid ok
  have RN := Lib.hid hR
  have yb10 := attM_lt (n := 10) (es := es) (fun q hq => by have := (ok.inn q hq).1; omega) a
  have RS := Lib.hid (fun k => rp_succ (attM es a) R k)
  have RR := Lib.hid (fun k => rp_range (attM es a) R k)
  have r0 : rp (attM es a) R 0 = -1 := by unfold rp; rfl
  have HY := Lib.hid (attL_at (n := n) es ha)
  obtain ⟨yb, hy⟩ : ∃ r, attM es a = r := ⟨_, rfl⟩
  rw [hy] at yb10 RS RR r0 HY ⊢
  have R0 := Lib.hid r0
  have j0 : (0 : Int) ≤ (a : Int) := by omega
  have j1 : (a : Int) < (n : Int) := by omega
  clear h hr hR ok hy r0
  go_enter Try.func75, Try.ntmps75
  go_wp2_with fail
  go_loopw [7, 8] (fun o t wr => ∃ k : Nat, k ≤ n ∧ t = .int .i64 k ∧ o = .int .i64 (rp yb R k) ∧ Below w.heap.size w wr) (fun _ t _ => n - (intOf t).toNat)
  case atStart => exact ⟨0, Nat.zero_le _, rfl, by rw [R0.out], Below.refl _ _⟩
  case round =>
    obtain ⟨k, hk, rfl, rfl, b8⟩ := hrel
    have B8 := Lib.hid b8
    have G8 := H.out.below b8
    have I8 := IR.out.below b8
    obtain ⟨_, _, B, e, CG, _, IB⟩ := G8
    have y0 := CG.cell 0 rfl
    have y2 := CG.cell 2 rfl
    clear b8
    by_cases hlt : k < n
    · obtain ⟨b, off, rfl, qa⟩ := IB.get HY.out
      obtain ⟨bR, oR, rfl, cq⟩ := I8.get (lst_at R hlt)
      have RG := RR.out k
      have FN := Lib.hid (RS.out k)
      have hd := decide_eq_true (show (k : Int) < (n : Int) by omega)
      have k0 : (0 : Int) ≤ (k : Int) := by omega
      have k1 : (k : Int) < (n : Int) := by omega
      obtain ⟨v, hv⟩ : ∃ v, yb.testBit k = v := ⟨_, rfl⟩
      have HV := Lib.hid hv
      rw [hv] at FN
      clear hv CG IB
      have rn := RN.out k
      obtain ⟨o, ho⟩ : ∃ o, rp yb R k = o := ⟨_, rfl⟩
      rw [ho] at RG FN ⊢
      clear ho
      cases v
      · replace FN := Lib.hid (FN.out.trans (if_neg (by simp)))
        clear RG I8
        go_wp2_with fail
        go_quiet ((go_at_call 67; exact quiet_left (l08In_v HV.out yb10 (by omega) _)))
        go_wp2_with fail
        go_roundw
        case rel => exact ⟨k + 1, by omega, by go_num, by rw [FN.out], below_drewN B8.out _⟩
        case measure => simp [intOf]; omega
      · replace FN := Lib.hid (FN.out.trans (if_pos rfl))
        rw [rpf_def] at FN
        rw [Int.toNat_natCast] at FN
        rcases RG with rfl | ⟨p, hp, rfl⟩
        · obtain ⟨r, hr⟩ : ∃ r, R k = r := ⟨_, rfl⟩
          rw [hr] at cq FN rn
          clear I8
          by_cases h0 : r = 0
          · have hne := decide_eq_false (show ¬ 0 < r by omega)
            replace FN := Lib.hid (FN.out.trans (if_neg (fun hh => hh.1 h0)))
            clear h0 hr
            go_wp2_with fail
            go_quiet ((go_at_call 67; exact quiet_left (l08In_v HV.out yb10 (by omega) _)))
            go_wp2_with fail
            go_roundw
            case rel => exact ⟨k + 1, by omega, by go_num, by rw [FN.out], below_drewN B8.out _⟩
            case measure => simp [intOf]; omega
          · have hne := decide_eq_true (show 0 < r by omega)
            replace FN := Lib.hid (FN.out.trans (if_pos ⟨h0, .inl (by omega)⟩))
            clear h0 hr
            go_wp2_with fail
            go_quiet ((go_at_call 67; exact quiet_left (l08In_v HV.out yb10 (by omega) _)))
            go_wp2_with fail
            go_roundw
            case rel => exact ⟨k + 1, by omega, by go_num, by rw [FN.out], below_drewN B8.out _⟩
            case measure => simp [intOf]; omega
        · rw [Int.toNat_natCast] at FN
          obtain ⟨b', off', e', cp⟩ := I8.get (lst_at R (show p < n by omega))
          obtain ⟨rfl, rfl⟩ : b' = bR ∧ off' = oR := by injection e' with e'; injection e' with e1 e2; exact ⟨e1.symm, e2.symm⟩
          have p0 : (0 : Int) ≤ (p : Int) := by omega
          have p1 : (p : Int) < (n : Int) := by omega
          obtain ⟨r, hr⟩ : ∃ r, R k = r := ⟨_, rfl⟩
          obtain ⟨s, hs⟩ : ∃ r, R p = r := ⟨_, rfl⟩
          rw [hr] at cq FN rn
          rw [hs] at cp FN
          have hlz := decide_eq_false (show ¬ (p : Int) < 0 by omega)
          clear I8 e'
          by_cases h0 : r = 0
          · have hne := decide_eq_false (show ¬ 0 < r by omega)
            replace FN := Lib.hid (FN.out.trans (if_neg (fun hh => hh.1 h0)))
            clear h0 hr hs
            go_wp2_with fail
            go_quiet ((go_at_call 67; exact quiet_left (l08In_v HV.out yb10 (by omega) _)))
            go_wp2_with fail
            go_roundw
            case rel => exact ⟨k + 1, by omega, by go_num, by rw [FN.out], below_drewN B8.out _⟩
            case measure => simp [intOf]; omega
          · have hne := decide_eq_true (show 0 < r by omega)
            by_cases h1 : r < s
            · have hd1 := decide_eq_true h1
              replace FN := Lib.hid (FN.out.trans (if_pos ⟨h0, .inr h1⟩))
              clear h0 hr hs
              go_wp2_with fail
              go_quiet ((go_at_call 67; exact quiet_left (l08In_v HV.out yb10 (by omega) _)))
              go_wp2_with fail
              go_roundw
              case rel => exact ⟨k + 1, by omega, by go_num, by rw [FN.out], below_drewN B8.out _⟩
              case measure => simp [intOf]; omega
            · have hd1 := decide_eq_false h1
              replace FN := Lib.hid (FN.out.trans (if_neg (fun hh => by rcases hh.2 with hh2 | hh2; omega; exact h1 hh2)))
              clear h0 hr hs
              go_wp2_with fail
              go_quiet ((go_at_call 67; exact quiet_left (l08In_v HV.out yb10 (by omega) _)))
              go_wp2_with fail
              go_roundw
              case rel => exact ⟨k + 1, by omega, by go_num, by rw [FN.out], below_drewN B8.out _⟩
              case measure => simp [intOf]; omega
    · obtain rfl : k = n := by omega
      have hd := decide_eq_false (show ¬ (k : Int) < (k : Int) by omega)
      go_wp2_with fail
      go_ret
      exact ⟨rfl, B8.out⟩
end Go.Proofs.Yteejfjgofpolkaa
