/- Sums, rankings of all options, the disagreement of a ranking, scores: walked. -/
import Derived.Test.YtikcbconfinibaaKemD
import Derived.Test.YtikcbconfinibaaShort
namespace Go.Proofs.Ytikcbconfinibaa
set_option linter.unusedVariables false
set_option linter.unusedSimpArgs false
set_option maxRecDepth 100000
open Go.RowKit Go.Deep
theorem sum_take {zs : List Int} {k : Nat} {z : Int} (h : zs[k]? = some z) : (zs.take (k + 1)).sum = (zs.take k).sum + z := by
  rw [take_snoc' h, List.sum_append]
  simp
theorem sum_bd {zs : List Int} (hz : ∀ z ∈ zs, 0 ≤ z ∧ z ≤ 10000000) : ∀ k : Nat, 0 ≤ (zs.take k).sum ∧ (zs.take k).sum ≤ 10000000 * k
  | 0 => by simp
  | k + 1 => by
    have ih := sum_bd hz k
    cases h : zs[k]? with
    | none =>
      rw [List.take_of_length_le (by rw [List.getElem?_eq_none_iff] at h; omega)]
      rw [List.take_of_length_le (by rw [List.getElem?_eq_none_iff] at h; omega)] at ih
      omega
    | some z =>
      rw [sum_take h]
      have := hz z (List.mem_of_getElem? h)
      omega
theorem total_ok (A : Option Addr) (n c : Nat) (zs : List Int) (hz : ∀ z ∈ zs, 0 ≤ z ∧ z ≤ 10000000) (hn : n ≤ 1000) (w : World) (h : Ints .i64 w A n c zs) :
    Calls Try.prog 45 #[.slice A n c] w fun e w' => e = .returned (.int .i64 zs.sum) ∧ w = w' := by
  have H := Lib.hid h
  have hl := Lib.hid h.1
  clear h
  go_enter Try.func45, Try.ntmps45
  go_wp2_with fail
  go_loop [3, 8] (fun s q => ∃ i : Nat, i ≤ n ∧ q = .int .i64 i ∧ s = .int .i64 (zs.take i).sum) (fun _ q => n - (intOf q).toNat)
  case atStart => exact ⟨0, Nat.zero_le _, rfl, by simp⟩
  case round =>
    obtain ⟨i, hi, rfl, rfl⟩ := hrel
    by_cases hlt : i < n
    · have d0 := decide_eq_true (show (i : Int) < (n : Int) by omega)
      have i0 : (0 : Int) ≤ (i : Int) := by omega
      have i1 : (i : Int) < (n : Int) := by omega
      obtain ⟨b, off, z, rfl, hb, hcell, hz1, hz2, hzi⟩ := H.out.at hlt
      have NX := Lib.hid (sum_take hzi.out)
      have bs := sum_bd hz i
      have bz := hz z (List.mem_of_getElem? hzi.out)
      obtain ⟨s, hs⟩ : ∃ y, (zs.take i).sum = y := ⟨_, rfl⟩
      rw [hs] at NX bs
      rw [hs]
      have ew : IntKind.i64.wrap (s + z) = s + z := IntWalk.i64_in _ (by omega)
      clear hs
      go_wp2_with fail
      go_round
      case rel => exact ⟨i + 1, by omega, by go_num, by rw [NX.out]⟩
      case measure => simp [intOf]; omega
    · obtain rfl : n = i := by omega
      have d0 := decide_eq_false (show ¬ (n : Int) < (n : Int) by omega)
      rw [List.take_of_length_le (by rw [hl.out]; exact Nat.le_refl _)]
      go_wp2_with fail
      go_ret
      exact ⟨rfl, rfl⟩
theorem r8Sum_ok (A : Option Addr) (n c : Nat) (zs : List Int) (hz : ∀ z ∈ zs, 0 ≤ z ∧ z ≤ 10000000) (hn : n ≤ 1000) (w : World) (h : Ints .i64 w A n c zs) :
    Calls Try.prog 22 #[.slice A n c] w fun e w' => e = .returned (.int .i64 zs.sum) ∧ w = w' := by
  have H := Lib.hid h
  have hl := Lib.hid h.1
  clear h
  go_enter Try.func22, Try.ntmps22
  go_wp2_with fail
  go_loop [3, 4] (fun s q => ∃ i : Nat, i ≤ n ∧ q = .int .i64 i ∧ s = .int .i64 (zs.take i).sum) (fun _ q => n - (intOf q).toNat)
  case atStart => exact ⟨0, Nat.zero_le _, rfl, by simp⟩
  case round =>
    obtain ⟨i, hi, rfl, rfl⟩ := hrel
    by_cases hlt : i < n
    · have d0 := decide_eq_true (show (i : Int) < (n : Int) by omega)
      have i0 : (0 : Int) ≤ (i : Int) := by omega
      have i1 : (i : Int) < (n : Int) := by omega
      obtain ⟨b, off, z, rfl, hb, hcell, hz1, hz2, hzi⟩ := H.out.at hlt
      have NX := Lib.hid (sum_take hzi.out)
      have bs := sum_bd hz i
      have bz := hz z (List.mem_of_getElem? hzi.out)
      obtain ⟨s, hs⟩ : ∃ y, (zs.take i).sum = y := ⟨_, rfl⟩
      rw [hs] at NX bs
      rw [hs]
      have ew : IntKind.i64.wrap (s + z) = s + z := IntWalk.i64_in _ (by omega)
      clear hs
      go_wp2_with fail
      go_round
      case rel => exact ⟨i + 1, by omega, by go_num, by rw [NX.out]⟩
      case measure => simp [intOf]; omega
    · obtain rfl : n = i := by omega
      have d0 := decide_eq_false (show ¬ (n : Int) < (n : Int) by omega)
      rw [List.take_of_length_le (by rw [hl.out]; exact Nat.le_refl _)]
      go_wp2_with fail
      go_ret
      exact ⟨rfl, rfl⟩
theorem r8Ranks_ok (n : Nat) (n6 : n ≤ 6) (p : List Nat) (hp : p.Perm (List.range n)) (A : Option Addr) (c : Nat) (w : World) (h : Ints .i64 w A n c (zr p)) :
    Calls Try.prog 23 #[.slice A n c, .int .i64 n] w fun e w' => e = .returned (.bool true) ∧ w = w' := by
  have H := Lib.hid h
  have e0 : ((n : Int) == (n : Int)) = true := by simp
  clear h
  go_enter Try.func23, Try.ntmps23
  go_wp2_with fail
  go_loop [5] (fun q => ∃ i : Nat, i ≤ n ∧ q = .int .i64 i) (fun q => n - (intOf q).toNat)
  case atStart => exact ⟨0, Nat.zero_le _, rfl⟩
  case round =>
    obtain ⟨i, hi, rfl⟩ := hrel
    by_cases hlt : i < n
    · have d0 := decide_eq_true (show (i : Int) < (n : Int) by omega)
      have R : Hid ((zr p).any (· == (i : Int)) = true) := by
        show _ = _
        rw [zr_any, List.elem_iff]
        exact hp.mem_iff.2 (List.mem_range.2 hlt)
      go_wp2_with fail
      refine (r8Has_any A n c (zr p) (i : Int) _ H.out).mono ?_
      rintro e w1 ⟨rfl, rfl⟩
      rw [R.out]
      go_wp2_with fail
      go_round
      case rel => exact ⟨i + 1, by omega, by go_num⟩
      case measure => simp [intOf]; omega
    · obtain rfl : n = i := by omega
      have d0 := decide_eq_false (show ¬ (n : Int) < (n : Int) by omega)
      go_wp2_with fail
      go_ret
      exact ⟨rfl, rfl⟩
theorem disagreementOf_ok (n : Nat) (rs : List (List Nat)) (ws : List Int) (ok : PrOk n rs ws) (RA : Option Addr) (rc : Nat) (WA : Option Addr) (wc : Nat) (p : List Nat) (hp : p.Perm (List.range n)) (A : Option Addr) (c : Nat) (w : World) (h : PrV w RA rc WA wc rs ws) (k : Ints .i64 w A n c (zr p)) :
    Calls Try.prog 19 #[.agg #[.slice RA rs.length rc, .slice WA rs.length wc], .slice A n c] w fun e w' => e = .returned (.tuple #[.int .i64 (dis (prs (rs.zip ws)) p), .bool true]) ∧ Below w.heap.size w w' := by
  have ba := bel_alloc w (.cells #[.slice RA rs.length rc, .slice WA rs.length wc] 27)
  have C := Lib.hid (Cs.new w [.slice RA rs.length rc, .slice WA rs.length wc] 27)
  have H := Lib.hid (h.below ba)
  have K := Lib.hid (k.below ba)
  have BA := Lib.hid ba
  have OKP := Lib.hid ok
  have lp : p.length = n := by have := hp.length_eq; simpa using this
  clear h k ba
  have y0 := C.out.cell 0 rfl
  have y1 := C.out.cell 1 rfl
  go_enter Try.func19, Try.ntmps19
  go_wp2_with fail
  refine (validProfile_ok n rs ws OKP.out RA rc WA wc _ H.out).mono ?_
  rintro e w1 ⟨rfl, b1⟩
  replace C := Lib.hid (C.out.below b1)
  replace H := Lib.hid (H.out.below b1)
  replace K := Lib.hid (K.out.below b1)
  replace BA := Lib.hid (bel_trans BA.out b1)
  clear b1 y0 y1
  have y0 := C.out.cell 0 rfl
  have y1 := C.out.cell 1 rfl
  go_wp2_with fail
  refine (options_ok n rs ws OKP.out RA rc WA wc _ H.out).mono ?_
  rintro e w2 ⟨rfl, b2⟩
  replace C := Lib.hid (C.out.below b2)
  replace H := Lib.hid (H.out.below b2)
  replace K := Lib.hid (K.out.below b2)
  replace BA := Lib.hid (bel_trans BA.out b2)
  clear b2 y0 y1
  go_wp2_with fail
  refine (isRanking_ok n OKP.out.n1 OKP.out.n6 p hp A c _ K.out).mono ?_
  rintro e w3 ⟨rfl, b3⟩
  replace C := Lib.hid (C.out.below b3)
  replace H := Lib.hid (H.out.below b3)
  replace K := Lib.hid (K.out.below b3)
  replace BA := Lib.hid (bel_trans BA.out b3)
  clear b3
  have y0 := C.out.cell 0 rfl
  have y1 := C.out.cell 1 rfl
  go_wp2_with fail
  refine (pairs_ok n rs ws OKP.out RA rc WA wc _ H.out).mono ?_
  rintro e w4 ⟨g, cg, vs, rfl, oM, b4⟩
  replace K := Lib.hid (K.out.below b4)
  replace BA := Lib.hid (bel_trans BA.out b4)
  have M := Lib.hid oM
  clear b4 y0 y1 oM
  have DI := Lib.hid (fun W hM hI => disagreement_ok n OKP.out.n6 (prs (rs.zip ws)) (prs_all OKP.out) p (fun x hx => List.mem_range.1 (hp.mem_iff.1 hx)) (by rw [lp]; exact OKP.out.n6) g cg w3.heap.size vs A c W hM hI)
  rw [lp] at DI
  clear lp
  go_wp2_with fail
  refine (DI.out _ M.out K.out).mono ?_
  rintro e w5 ⟨rfl, rfl⟩
  go_wp2_with fail
  exact bodyPost_ret (v := .tuple #[.int .i64 (dis (prs (rs.zip ws)) p), .bool true]) (by simp [results, Try.results19, go_sem]) rfl ⟨rfl, BA.out⟩
end Go.Proofs.Ytikcbconfinibaa
