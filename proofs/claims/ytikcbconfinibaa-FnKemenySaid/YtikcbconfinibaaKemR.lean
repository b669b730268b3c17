/- The Kemeny ranking. -/
import Derived.Test.YtikcbconfinibaaKemX
import Derived.Laws.EntriesVeiled
namespace Go.Proofs.Ytikcbconfinibaa
set_option linter.unusedVariables false
set_option linter.unusedSimpArgs false
set_option maxRecDepth 100000
open Go.RowKit Go.Deep
theorem MR.wide {lo hi hi' : Nat} {w : World} {A : Option Addr} {n c : Nat} {vs : List Value} {zss : List (List Int)} (h : MR lo hi w A n c vs zss) (hh : hi ≤ hi') : MR lo hi' w A n c vs zss :=
  ⟨h.own, fun g hg => Nat.lt_of_lt_of_le (h.top g hg) hh, fun v hv g hg => Nat.lt_of_lt_of_le (h.rows v hv g hg) hh⟩
set_option maxHeartbeats 1000000 in
theorem kemenyRanking_ok (n : Nat) (rs : List (List Nat)) (ws : List Int) (ok : PrOk n rs ws) (RA : Option Addr) (rc : Nat) (WA : Option Addr) (wc : Nat) (w : World) (h : PrV w RA rc WA wc rs ws) :
    Calls Try.prog 18 #[.agg #[.slice RA rs.length rc, .slice WA rs.length wc]] w fun e w' => ∃ q A c, e = .returned (.tuple #[.slice A n c, .int .i64 (dis (prs (rs.zip ws)) q), .bool true]) ∧ q.Perm (List.range n) ∧ (∀ r : List Nat, r.Perm (List.range n) → dis (prs (rs.zip ws)) q ≤ dis (prs (rs.zip ws)) r) ∧ Ints .i64 w' A n c (zr q) ∧ Below w.heap.size w w' := by
  have ba := bel_alloc w (.cells #[.slice RA rs.length rc, .slice WA rs.length wc] 27)
  have C := Lib.hid (Cs.new w [.slice RA rs.length rc, .slice WA rs.length wc] 27)
  have H := Lib.hid (h.below ba)
  have BA := Lib.hid ba
  have lb0 : w.heap.size < (w.alloc (.cells #[.slice RA rs.length rc, .slice WA rs.length wc] 27)).heap.size := by simp
  have OKP := Lib.hid ok
  have n6 := ok.n6
  clear h ba
  have y0 := C.out.cell 0 rfl
  have y1 := C.out.cell 1 rfl
  go_enter Try.func18, Try.ntmps18
  go_wp2_with fail
  refine (validProfile_ok n rs ws OKP.out RA rc WA wc _ H.out).mono ?_
  rintro e w1 ⟨rfl, b1⟩
  replace C := Lib.hid (C.out.below b1)
  replace H := Lib.hid (H.out.below b1)
  replace BA := Lib.hid (bel_trans BA.out b1)
  have LB := Lib.hid (Nat.lt_of_lt_of_le lb0 b1.size)
  clear b1 y0 y1 lb0
  have y0 := C.out.cell 0 rfl
  have y1 := C.out.cell 1 rfl
  go_wp2_with fail
  refine (pairs_ok n rs ws OKP.out RA rc WA wc _ H.out).mono ?_
  rintro e w4 ⟨gP, cP, vs, rfl, oM, b4⟩
  have M0 := Lib.hid (MR.mk' oM)
  replace C := Lib.hid (C.out.below b4)
  have B4 := Lib.hid b4
  clear b4 oM y0 y1
  have k1 := bel_alloc w4 (.cells #[.slice (some ⟨gP, 0, none⟩) n cP] 24)
  have k2 := bel_alloc (w4.alloc (.cells #[.slice (some ⟨gP, 0, none⟩) n cP] 24)) (.cells #[.slice none 0 0] 25)
  have k3 := bel_alloc ((w4.alloc (.cells #[.slice (some ⟨gP, 0, none⟩) n cP] 24)).alloc (.cells #[.slice none 0 0] 25)) (.cells #[.int .i64 0] 2)
  have k4 := bel_alloc (((w4.alloc (.cells #[.slice (some ⟨gP, 0, none⟩) n cP] 24)).alloc (.cells #[.slice none 0 0] 25)).alloc (.cells #[.int .i64 0] 2)) (.cells #[.func (.func 38) #[] #[.pointer (some ⟨w.heap.size, 0, none⟩), .pointer (some ⟨w4.heap.size, 0, none⟩), .pointer (some ⟨w4.heap.size + 1, 0, none⟩), .pointer (some ⟨w4.heap.size + 1 + 1, 0, none⟩), .pointer (some ⟨w4.heap.size + 1 + 1 + 1, 0, none⟩)]] 55)
  have CP := (((Cs.new w4 [.slice (some ⟨gP, 0, none⟩) n cP] 24).below k2).below k3).below k4
  have CB := ((Cs.new (w4.alloc (.cells #[.slice (some ⟨gP, 0, none⟩) n cP] 24)) [.slice none 0 0] 25).below k3).below k4
  have CL := (Cs.new ((w4.alloc (.cells #[.slice (some ⟨gP, 0, none⟩) n cP] 24)).alloc (.cells #[.slice none 0 0] 25)) [.int .i64 0] 2).below k4
  have CF := Cs.new (((w4.alloc (.cells #[.slice (some ⟨gP, 0, none⟩) n cP] 24)).alloc (.cells #[.slice none 0 0] 25)).alloc (.cells #[.int .i64 0] 2)) [.func (.func 38) #[] #[.pointer (some ⟨w.heap.size, 0, none⟩), .pointer (some ⟨w4.heap.size, 0, none⟩), .pointer (some ⟨w4.heap.size + 1, 0, none⟩), .pointer (some ⟨w4.heap.size + 1 + 1, 0, none⟩), .pointer (some ⟨w4.heap.size + 1 + 1 + 1, 0, none⟩)]] 55
  have s1 : (w4.alloc (.cells #[.slice (some ⟨gP, 0, none⟩) n cP] 24)).heap.size = w4.heap.size + 1 := by simp
  have s2 : ((w4.alloc (.cells #[.slice (some ⟨gP, 0, none⟩) n cP] 24)).alloc (.cells #[.slice none 0 0] 25)).heap.size = w4.heap.size + 1 + 1 := by simp
  have s3 : (((w4.alloc (.cells #[.slice (some ⟨gP, 0, none⟩) n cP] 24)).alloc (.cells #[.slice none 0 0] 25)).alloc (.cells #[.int .i64 0] 2)).heap.size = w4.heap.size + 1 + 1 + 1 := by simp
  have s4 : ((((w4.alloc (.cells #[.slice (some ⟨gP, 0, none⟩) n cP] 24)).alloc (.cells #[.slice none 0 0] 25)).alloc (.cells #[.int .i64 0] 2)).alloc (.cells #[.func (.func 38) #[] #[.pointer (some ⟨w.heap.size, 0, none⟩), .pointer (some ⟨w4.heap.size, 0, none⟩), .pointer (some ⟨w4.heap.size + 1, 0, none⟩), .pointer (some ⟨w4.heap.size + 1 + 1, 0, none⟩), .pointer (some ⟨w4.heap.size + 1 + 1 + 1, 0, none⟩)]] 55)).heap.size = w4.heap.size + 1 + 1 + 1 + 1 := by simp
  rw [s1] at CB
  rw [s2] at CL
  rw [s3] at CF
  have kk := bel_trans k1 (bel_trans k2 (bel_trans k3 k4))
  have HCP := Lib.hid CP
  have HCB := Lib.hid CB
  have HCL := Lib.hid CL
  have HCF := Lib.hid CF
  have KK := Lib.hid kk
  have S4 := Lib.hid s4
  clear k1 k2 k3 k4 CP CB CL CF s1 s2 s3 s4 kk
  go_wp2_with fail
  obtain ⟨w5, hw5⟩ : ∃ x, (((w4.alloc (.cells #[.slice (some ⟨gP, 0, none⟩) n cP] 24)).alloc (.cells #[.slice none 0 0] 25)).alloc (.cells #[.int .i64 0] 2)).alloc (.cells #[.func (.func 38) #[] #[.pointer (some ⟨w.heap.size, 0, none⟩), .pointer (some ⟨w4.heap.size, 0, none⟩), .pointer (some ⟨w4.heap.size + 1, 0, none⟩), .pointer (some ⟨w4.heap.size + 1 + 1, 0, none⟩), .pointer (some ⟨w4.heap.size + 1 + 1 + 1, 0, none⟩)]] 55) = x := ⟨_, rfl⟩
  rw [hw5] at HCP HCB HCL HCF KK S4
  rw [hw5]
  clear hw5
  have g4 : w1.heap.size ≤ w4.heap.size := B4.out.size
  have gb := BA.out.size
  have lb : w.heap.size < w1.heap.size := LB.out
  have EV : Env (prs (rs.zip ws)) n (w4.heap.size + 1) rs ws RA rc WA wc w.heap.size gP cP vs (cloV w.heap.size (w4.heap.size + 1)) w5 :=
    ⟨⟨w1, bel_trans B4.out KK.out, by omega, H.out⟩, C.out.below KK.out, by omega, by rw [Nat.add_sub_cancel]; exact HCP.out, ⟨_, (M0.out.below KK.out).wide (Nat.le_succ _)⟩, HCF.out, by omega⟩
  have BV : BS (prs (rs.zip ws)) n (w4.heap.size + 1) w5 none := ⟨HCB.out.cell 0 rfl, HCL.out.cell 0 rfl, HCB.out.free 0 rfl, HCL.out.free 0 rfl, by rw [S4.out]; omega⟩
  have PL := place_ok n rs ws OKP.out RA rc WA wc (w4.heap.size + 1) w.heap.size gP cP vs n [] 0 rfl (by omega) List.nodup_nil (by simp) none 0 none w5 EV ⟨World.ownsRow_nil _ _ _ _, fun z hz => by cases hz⟩ BV
  rw [Nat.add_sub_cancel] at PL
  have KB := Lib.hid (bel_trans BA.out (bel_trans B4.out KK.out))
  clear EV BV
  refine PL.mono ?_
  rintro e w6 ⟨rfl, st, bs, res, o6⟩
  obtain ⟨q, rfl, _⟩ := res.all (List.range n) (.refl _) (List.nil_prefix)
  have QP := Lib.hid (res.perm (fun q h => by cases h) q rfl)
  have QL : Hid (∀ r : List Nat, r.Perm (List.range n) → dis (prs (rs.zip ws)) q ≤ dis (prs (rs.zip ws)) r) := by
    intro r hr
    obtain ⟨q', e', l'⟩ := res.all r hr List.nil_prefix
    injection e' with e'
    rw [e']
    exact l'
  have B6 := Lib.hid (bel_only KB.out o6 (by omega))
  obtain ⟨b, c, c1, oq, c2, _, _, _⟩ := bs
  have OQ := Lib.hid oq
  obtain ⟨D, hD⟩ : ∃ x, dis (prs (rs.zip ws)) q = x := ⟨_, rfl⟩
  have HD := Lib.hid hD
  rw [hD] at c2
  clear hD oq res o6 PL
  go_wp2_with fail
  go_quiet (fail)
  rename_i nq
  have OE := Lib.hid (OQ.out.ints.below (below_drewN (Below.refl _ _) nq))
  have BE := Lib.hid (below_drewN B6.out nq)
  go_wp2_with fail
  exact bodyPost_ret (v := .tuple #[.slice (some ⟨b, 0, none⟩) n c, .int .i64 D, .bool true]) (by simp [results, Try.results18, go_sem]) rfl ⟨q, some ⟨b, 0, none⟩, c, by rw [HD.out], QP.out, QL.out, OE.out, BE.out⟩
end Go.Proofs.Ytikcbconfinibaa
