/- Disagreements and sums, walked. -/
import Derived.Test.YtikcbconfinibaaKem
import Derived.Test.YtikcbconfinibaaRkWin
namespace Go.Proofs.Ytikcbconfinibaa
set_option linter.unusedVariables false
set_option linter.unusedSimpArgs false
set_option maxRecDepth 100000
open Go.RowKit Go.Deep
set_option maxHeartbeats 1000000 in
theorem disagreement_ok (n : Nat) (n6 : n ≤ 6) (P : Nat → Nat → Int) (hP : ∀ a b, 0 ≤ P a b ∧ P a b ≤ 432000) (p : List Nat) (hp : ∀ x ∈ p, x < n) (hl : p.length ≤ 6) (gP cP base : Nat) (v : List Value) (A : Option Addr) (c : Nat) (w : World)
    (hM : OwnM w base (some ⟨gP, 0, none⟩) n cP v (matF n P)) (hI : Ints .i64 w A p.length c (zr p)) :
    Calls Try.prog 40 #[.slice (some ⟨gP, 0, none⟩) n cP, .slice A p.length c] w fun e w' => e = .returned (.int .i64 (dis P p)) ∧ w = w' := by
  have M := Lib.hid hM
  have HI := Lib.hid hI
  have hpc := hI.2.1
  have c64 : c ≤ 9223372036854775807 := by have := hI.2.2.1; unfold maxLen at this; omega
  have D6 := Lib.hid (fun l (h : l.length ≤ 6) => dis_bd hP l h)
  have S6 := Lib.hid (fun a l => sB_bd hP a l)
  clear hM hI
  obtain ⟨L, hL⟩ : ∃ z, p.length = z := ⟨_, rfl⟩
  rw [hL] at HI hpc hl
  rw [hL]
  have HL := Lib.hid hL
  clear hL
  go_enter Try.func40, Try.ntmps40
  go_wp2_with fail
  go_loop [5, 12] (fun s q => ∃ i : Nat, i ≤ L ∧ q = .int .i64 i ∧ s = .int .i64 (dis P p - dis P (p.drop i))) (fun _ q => L - (intOf q).toNat)
  case atStart => exact ⟨0, Nat.zero_le _, rfl, by simp⟩
  case round =>
    obtain ⟨i, hi, rfl, rfl⟩ := hrel
    by_cases hlt : i < L
    · have d0 := decide_eq_true (show (i : Int) < (L : Int) by omega)
      have i0 : (0 : Int) ≤ (i : Int) := by omega
      have i1 : (i : Int) < (L : Int) := by omega
      obtain ⟨b, off, z, rfl, hb, hcell, hz1, hz2, hz⟩ := HI.out.at hlt
      obtain ⟨a, ha, rfl⟩ := zr_at' hz.out
      have han := hp a (List.mem_of_getElem? ha)
      have DD := Lib.hid (dis_drop (P := P) ha)
      obtain ⟨s0, hs0⟩ : ∃ x, dis P p - dis P (p.drop i) = x := ⟨_, rfl⟩
      have HS := Lib.hid hs0
      rw [hs0]
      clear hs0
      have i2 : (i : Int) + 1 ≤ (L : Int) := by omega
      have i3 : (0 : Int) ≤ (i : Int) + 1 := by omega
      by_cases ht : i + 1 < L
      · have hc1 : i + 1 < c := by omega
        have TI := Lib.hid (HI.out.back (k := i + 1) (by omega) (some ⟨b, off + (i + 1), none⟩) (fun _ => rfl))
        rw [show (zr p).drop (i + 1) = zr (p.drop (i + 1)) by simp [zr, List.map_drop]] at TI
        go_wp2_with fail
        obtain ⟨m, hm⟩ : ∃ m, L - (i + 1) = m := ⟨_, rfl⟩
        obtain ⟨l, hlq⟩ : ∃ l, p.drop (i + 1) = l := ⟨_, rfl⟩
        have HLM : Hid (l.length = m) := by
          show _ = _
          rw [← hlq, List.length_drop, HL.out, hm]
        have hpl : ∀ x ∈ l, x < n := fun x hx => hp x (List.mem_of_mem_drop (by rw [hlq]; exact hx))
        have b1 := D6.out p (by rw [HL.out]; exact hl)
        have b2 := D6.out (p.drop i) (by rw [List.length_drop, HL.out]; omega)
        rw [HL.out] at b1
        rw [List.length_drop, HL.out] at b2
        have bs : -31104000 ≤ s0 ∧ s0 ≤ 31104000 := by have := HS.out; omega
        rw [hm, hlq] at TI
        rw [hlq] at DD
        rw [hm]
        have m6 : m ≤ 6 := by omega
        have HE : Hid (dis P p - dis P l = s0 + sB P a l) := by show _ = _; rw [← HS.out, DD.out]; omega
        have HQ := Lib.hid hlq
        clear hm hlq b1 b2 D6 HS
        go_loop [5, 22] (fun s q => ∃ j : Nat, j ≤ m ∧ q = .int .i64 j ∧ s = .int .i64 (s0 + (sB P a l - sB P a (l.drop j)))) (fun _ q => m - (intOf q).toNat)
        case atStart => exact ⟨0, Nat.zero_le _, rfl, by simp⟩
        case round =>
          obtain ⟨j, hj, rfl, rfl⟩ := hrel
          by_cases hjm : j < m
          · have d1 := decide_eq_true (show (j : Int) < (m : Int) by omega)
            have j0 : (0 : Int) ≤ (j : Int) := by omega
            have j1 : (j : Int) < (m : Int) := by omega
            obtain ⟨b', off', z', hA, hb', hcell', _, _, hz'⟩ := TI.out.at hjm
            simp only [Option.some.injEq, Addr.mk.injEq, and_true] at hA
            obtain ⟨rfl, rfl⟩ := hA
            obtain ⟨x, hx, rfl⟩ := zr_at' hz'.out
            have hxn := hpl x (List.mem_of_getElem? hx)
            obtain ⟨gi, ci, RA⟩ := M.out.rowAt hxn
            have y1 := RA.cell
            have y2 := RA.at' a han
            have x0 : (0 : Int) ≤ (x : Int) := by omega
            have x1 : (x : Int) < (n : Int) := by omega
            have a0 : (0 : Int) ≤ (a : Int) := by omega
            have a1 : (a : Int) < (n : Int) := by omega
            have q1 := S6.out a l
            have q2 := S6.out a (l.drop j)
            have q3 := S6.out a (l.drop (j + 1))
            rw [List.length_drop, HLM.out] at q2 q3
            rw [HLM.out] at q1
            have hb1 := hP x a
            have SD := sB_drop (P := P) (a := a) hx
            have NX : Hid (s0 + (sB P a l - sB P a (l.drop j)) + P x a = s0 + (sB P a l - sB P a (l.drop (j + 1)))) := by show _ = _; omega
            have bt : -40000000 ≤ s0 + (sB P a l - sB P a (l.drop j)) ∧ s0 + (sB P a l - sB P a (l.drop j)) ≤ 40000000 := by omega
            obtain ⟨s1, hs1⟩ : ∃ y, s0 + (sB P a l - sB P a (l.drop j)) = y := ⟨_, rfl⟩
            rw [hs1] at NX bt
            rw [hs1]
            obtain ⟨u, hu⟩ : ∃ y, P x a = y := ⟨_, rfl⟩
            rw [hu] at NX hb1 y2
            have ew : IntKind.i64.wrap (s1 + u) = s1 + u := IntWalk.i64_in _ (by omega)
            clear hs1 hu SD q1 q2 q3 RA
            go_wp2_with fail
            go_round
            case rel => exact ⟨j + 1, by omega, by go_num, by rw [NX.out]⟩
            case measure => simp [intOf]; omega
          · obtain rfl : m = j := by omega
            have d1 := decide_eq_false (show ¬ (m : Int) < (m : Int) by omega)
            have e2 : Hid (s0 + (sB P a l - sB P a (l.drop m)) = dis P p - dis P l) := by
              show _ = _
              rw [List.drop_eq_nil_of_le (by rw [HLM.out]; exact Nat.le_refl _), HE.out]
              simp [sB]
            obtain ⟨s1, hs1⟩ : ∃ y, s0 + (sB P a l - sB P a (l.drop m)) = y := ⟨_, rfl⟩
            rw [hs1] at e2
            rw [hs1]
            clear hs1
            go_wp2_with fail
            go_round
            case rel => exact ⟨i + 1, by omega, by go_num, by rw [e2.out, HQ.out]⟩
            case measure => simp [intOf]; omega
      · have l0 : L - (i + 1) = 0 := by omega
        have hd : p.drop (i + 1) = [] := List.drop_eq_nil_of_le (by rw [HL.out]; omega)
        have HE : Hid (s0 = dis P p - dis P (p.drop (i + 1))) := by
          show _ = _
          rw [← HS.out, DD.out, hd]
          simp [sB]
        clear hd
        by_cases hc : i + 1 < c
        · go_wp2_with fail
          go_loop [5, 22] (fun s q => s = .int .i64 s0 ∧ q = .int .i64 0) (fun _ _ => 0)
          case atStart => exact ⟨rfl, rfl⟩
          case round =>
            obtain ⟨rfl, rfl⟩ := hrel
            go_wp2_with fail
            go_round
            case rel => exact ⟨i + 1, by omega, by go_num, by rw [← HE.out]⟩
            case measure => simp [intOf]; omega
        · have hc3 : c - (i + 1) = 0 := by omega
          go_wp2_with fail
          go_loop [5, 22] (fun s q => s = .int .i64 s0 ∧ q = .int .i64 0) (fun _ _ => 0)
          case atStart => exact ⟨rfl, rfl⟩
          case round =>
            obtain ⟨rfl, rfl⟩ := hrel
            go_wp2_with fail
            go_round
            case rel => exact ⟨i + 1, by omega, by go_num, by rw [← HE.out]⟩
            case measure => simp [intOf]; omega
    · obtain rfl : L = i := by omega
      have d0 := decide_eq_false (show ¬ (L : Int) < (L : Int) by omega)
      have e0 : dis P p - dis P (p.drop L) = dis P p := by rw [List.drop_eq_nil_of_le (by rw [HL.out]; exact Nat.le_refl _)]; simp [dis]
      rw [e0]
      clear e0
      go_wp2_with fail
      go_ret
      exact ⟨rfl, rfl⟩
end Go.Proofs.Ytikcbconfinibaa
