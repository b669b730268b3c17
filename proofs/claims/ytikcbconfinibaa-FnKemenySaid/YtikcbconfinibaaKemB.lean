/- Scores; a drawn ranking. -/
import Derived.Test.YtikcbconfinibaaKemS
namespace Go.Proofs.Ytikcbconfinibaa
set_option linter.unusedVariables false
set_option linter.unusedSimpArgs false
set_option maxRecDepth 100000
open Go.RowKit Go.Deep
theorem R8Ranking_any (n : Nat) (n1 : 1 ≤ n) (n6 : n ≤ 6) (A : Option Addr) (q c : Nat) (bs : List Int) (w : World) (h : Ints .u8 w A q c bs) :
    Calls Try.prog 20 #[.slice A q c, .int .i64 n] w fun e w' => ∃ r R d, e = .returned (.slice R n d) ∧ r.Perm (List.range n) ∧ OwnI w' w.heap.size R n d (zr r) ∧ Below w.heap.size w w' := by
  go_enter Try.func20, Try.ntmps20
  go_wp2_with fail
  refine (l00From_any A q c bs _ h).mono ?_
  rintro e w1 ⟨g, rfl, hg, hs, hb⟩
  have S1 := Lib.hid hs
  have B1 := Lib.hid hb
  clear hb hs
  go_wp2_with fail
  refine (l06DrawRanking_any n n1 n6 g A q c bs 0 (by omega) w1 S1.out).mono ?_
  rintro e w2 ⟨r, R, d, k, rfl, hr, ho, _, _, hgr⟩
  have B2 := Lib.hid (B1.out.grown hgr B1.out.size (fun x hx => by injection hx with hx; omega))
  have HO := Lib.hid (ho.mono (b2 := w.heap.size) B1.out.size)
  clear ho hgr
  go_wp2_with fail
  go_ret
  exact ⟨r, R, d, rfl, hr, HO.out, B2.out⟩
theorem rowF_sum (f : Nat → Int) : ∀ n, (rowF n f).sum = tot f n
  | 0 => rfl
  | n + 1 => by
    rw [rowF_succ, List.sum_append, rowF_sum f n]
    simp [tot]
theorem tot_bd {f : Nat → Int} (hf : ∀ k, 0 ≤ f k ∧ f k ≤ 432000) : ∀ n, 0 ≤ tot f n ∧ tot f n ≤ 432000 * n
  | 0 => by simp [tot]
  | n + 1 => by
    have := tot_bd hf n
    have := hf n
    unfold tot
    omega
theorem MR.grow {lo hi : Nat} {w w' : World} {A : Option Addr} {n c : Nat} {vs : List Value} {zss : List (List Int)} (h : MR lo hi w A n c vs zss) {row : Option Nat} (hg : w.grownBy w' row) (hr : ∀ x, row = some x → x < lo ∨ hi ≤ x) : MR lo hi w' A n c vs zss := by
  cases row with
  | none => exact h.only (Only.of_grown (lo := hi) (hi := hi) hg (fun g hg => by cases hg)) (.inl (Nat.le_refl _))
  | some x => exact h.only (Only.of_grown (lo := x) (hi := x + 1) hg (fun g hg => by injection hg with hg; omega)) (by have := hr x rfl; unfold Off; omega)
set_option maxHeartbeats 1000000 in
theorem bordaScores_ok (n : Nat) (rs : List (List Nat)) (ws : List Int) (ok : PrOk n rs ws) (RA : Option Addr) (rc : Nat) (WA : Option Addr) (wc : Nat) (w : World) (h : PrV w RA rc WA wc rs ws) :
    Calls Try.prog 21 #[.agg #[.slice RA rs.length rc, .slice WA rs.length wc]] w fun e w' => ∃ A c, e = .returned (.tuple #[.slice A n c, .bool true]) ∧ Ints .i64 w' A n c (rowF n fun a => tot (prs (rs.zip ws) a) n) ∧ Below w.heap.size w w' := by
  have ba := bel_alloc w (.cells #[.slice RA rs.length rc, .slice WA rs.length wc] 27)
  have C := Lib.hid (Cs.new w [.slice RA rs.length rc, .slice WA rs.length wc] 27)
  have H := Lib.hid (h.below ba)
  have BA := Lib.hid ba
  have OKP := Lib.hid ok
  have n6 := ok.n6
  clear h ba
  have y0 := C.out.cell 0 rfl
  have y1 := C.out.cell 1 rfl
  go_enter Try.func21, Try.ntmps21
  go_wp2_with fail
  refine (validProfile_ok n rs ws OKP.out RA rc WA wc _ H.out).mono ?_
  rintro e w1 ⟨rfl, b1⟩
  replace C := Lib.hid (C.out.below b1)
  replace H := Lib.hid (H.out.below b1)
  replace BA := Lib.hid (bel_trans BA.out b1)
  have bl := bel_alloc w1 (.cells #[] 2)
  have O0 := Lib.hid ((ownI_lit w1).mono (b2 := w.heap.size) BA.out.size)
  replace C := Lib.hid (C.out.below bl)
  replace H := Lib.hid (H.out.below bl)
  replace BA := Lib.hid (bel_trans BA.out bl)
  have s1 : w1.heap.size < (w1.alloc (.cells #[] 2)).heap.size := by simp
  clear b1 bl y0 y1
  have y0 := C.out.cell 0 rfl
  have y1 := C.out.cell 1 rfl
  go_wp2_with fail
  obtain ⟨w2, hw2⟩ : ∃ x, w1.alloc (.cells #[] 2) = x := ⟨_, rfl⟩
  rw [hw2] at C H BA O0 s1
  rw [hw2]
  clear hw2 y0 y1
  refine (pairs_ok n rs ws OKP.out RA rc WA wc _ H.out).mono ?_
  rintro e w4 ⟨g, cg, vs, rfl, oM, b4⟩
  have M0 := Lib.hid (MR.mk' oM)
  have O1 := Lib.hid (O0.out.below b4)
  replace BA := Lib.hid (bel_trans BA.out b4)
  have PB := Lib.hid (prs_all OKP.out)
  obtain ⟨P, hP⟩ : ∃ P, prs (rs.zip ws) = P := ⟨_, rfl⟩
  rw [hP] at M0 PB
  have HPQ := Lib.hid hP
  obtain ⟨lo, hlo⟩ : ∃ x, w2.heap.size = x := ⟨_, rfl⟩
  obtain ⟨hi, hhi⟩ : ∃ x, w4.heap.size = x := ⟨_, rfl⟩
  rw [hlo, hhi] at M0
  rw [hlo] at s1
  have hs4 : hi ≤ w4.heap.size := Nat.le_of_eq hhi.symm
  clear b4 oM hP hlo hhi C H O0
  go_wp2_with fail
  go_loopw [4, 14] (fun s q wr => ∃ (i : Nat) (A' : Option Addr) (c' : Nat), i ≤ n ∧ q = .int .i64 i ∧ s = .slice A' i c' ∧ OwnI wr w.heap.size A' i c' (rowF i fun a => tot (P a) n) ∧ MR lo hi wr (some ⟨g, 0, none⟩) n cg vs (matF n P) ∧
    (∀ x, (Value.slice A' i c').ownBlock = some x → x < lo ∨ hi ≤ x) ∧ hi ≤ wr.heap.size ∧ Below w.heap.size w wr) (fun _ q _ => n - (intOf q).toNat)
  case atStart => exact ⟨0, some ⟨w1.heap.size, 0, none⟩, 0, Nat.zero_le _, rfl, rfl, O1.out, M0.out, fun x hx => by
    have e : w1.heap.size = x := by simpa [Value.ownBlock] using hx
    omega, hs4, BA.out⟩
  case round =>
    obtain ⟨i, A', c', hi', rfl, rfl, ho, hm, hx, hsz, hb⟩ := hrel
    have HO := Lib.hid ho
    have HM := Lib.hid hm
    have HX := Lib.hid hx
    have HB := Lib.hid hb
    clear ho hm hx hb
    by_cases hlt : i < n
    · have d0 := decide_eq_true (show (i : Int) < (n : Int) by omega)
      have i0 : (0 : Int) ≤ (i : Int) := by omega
      have i1 : (i : Int) < (n : Int) := by omega
      obtain ⟨b, off, A2, m2, c2, zs2, hA, hbb, hcell, hI, hz⟩ := HM.out.own.rws.at hlt
      simp only [Option.some.injEq, Addr.mk.injEq, and_true] at hA
      obtain ⟨rfl, rfl⟩ := hA
      have hz' := hz.out
      rw [matF_at P hlt] at hz'
      injection hz' with hz'
      subst hz'
      have e2 := hI.1
      rw [rowF_len] at e2
      subst e2
      have HI := Lib.hid hI
      rw [Nat.zero_add] at hcell
      have TT := Lib.hid (rowF_sum (P i) n)
      have TB := tot_bd (PB.out i) n
      have TOT := Lib.hid (total_ok A2 n c2 (rowF n (P i)) (fun z hz => by
        obtain ⟨k, _, rfl⟩ := List.mem_map.1 hz
        have := PB.out i k
        omega) (by omega) wr HI.out)
      rw [TT.out] at TOT
      have RS := Lib.hid (rowF_succ i fun a => tot (P a) n)
      obtain ⟨u, hu⟩ : ∃ y, tot (P i) n = y := ⟨_, rfl⟩
      rw [hu] at TOT TB
      have HU := Lib.hid hu
      clear hu hI TT
      go_wp2_with fail
      refine TOT.out.mono ?_
      rintro e w5 ⟨rfl, rfl⟩
      go_wp2_with (at_builtin; refine app_int_at wr rfl _ _ rfl w.heap.size A' i c' _ rfl HO.out u (by omega) (by omega) rfl (by omega) HB.out.size ?_; intro A3 c3 w7 p1 p2 p3)
      go_roundw
      case rel =>
        refine ⟨i + 1, A3, c3, by omega, by go_num, rfl, ?_, HM.out.grow p2 HX.out, ?_, Nat.le_trans hsz p2.size, HB.out.grown p2 HB.out.size (fun x hx => (HO.out.block x hx).1)⟩
        · rw [RS.out, HU.out]
          exact p1
        · intro x hx
          rcases p3 with e | ⟨y, e, hy⟩
          · rw [e] at hx
            exact HX.out x hx
          · rw [e] at hx
            injection hx with hx
            omega
      case measure => simp [intOf]; omega
    · obtain rfl : n = i := by omega
      have d0 := decide_eq_false (show ¬ (n : Int) < (n : Int) by omega)
      go_wp2_with fail
      exact bodyPost_ret (v := .tuple #[.slice A' n c', .bool true]) (by simp [results, Try.results21, go_sem]) rfl ⟨A', c', rfl, by rw [HPQ.out]; exact HO.out.ints, HB.out⟩
end Go.Proofs.Ytikcbconfinibaa
