/- The law FnExactReadFrame, walked. -/
import Derived.Test.YteehbnanjgmliaaDoorRdS
namespace Go.Proofs.YteehbnanjgmliaaDoor
set_option linter.unusedVariables false
set_option linter.unusedSimpArgs false
set_option maxRecDepth 100000
open Go.RowKit Go.Sort
theorem decT_inj {i j : Nat} (hi : i ≤ 10) (hj : j ≤ 10) (h : decT i = decT j) : i = j := by
  have e1 := parse_dec ⟨i, by omega⟩
  have e2 := parse_dec ⟨j, by omega⟩
  simp only at e1 e2
  rw [h, e2] at e1
  injection e1 with e1
  omega
theorem wB_inj {p q : Nat × Nat} (hp : p.1 ≤ 9 ∧ p.2 ≤ 9) (hq : q.1 ≤ 9 ∧ q.2 ≤ 9) (h : wB p = wB q) : p = q := by
  obtain ⟨a1, a2⟩ := cut_wB hp.1 hp.2
  obtain ⟨b1, b2⟩ := cut_wB hq.1 hq.2
  rw [h] at a1 a2
  have c1 := decT_inj (by omega) (by omega) (a1.symm.trans b1)
  have c2 := decT_inj (by omega) (by omega) (a2.symm.trans b2)
  cases p; cases q
  simp at c1 c2
  rw [c1, c2]
theorem frT_inj {n m : Nat} {es fs : List (Nat × Nat)} (ok : FrOk n es) (ok2 : FrOk m fs) (h : frT n (es.map erow) = frT m (fs.map erow)) : n = m ∧ es = fs := by
  have h1 := frT_split ok
  have h2 := frT_split ok2
  have hc := frT_count ok
  rw [h, frT_count ok2] at hc
  rw [h, ← hc, h2] at h1
  injection h1 with h1 h3
  refine ⟨(decT_inj ok2.n10 ok.n10 h1).symm, ?_⟩
  apply List.ext_getElem?
  intro i
  rcases Nat.lt_or_ge i es.length with hi | hi
  · have e1 := List.getElem?_eq_getElem hi
    have e2 := List.getElem?_eq_getElem (show i < fs.length by omega)
    have : (fs.map wB)[i]? = (es.map wB)[i]? := by rw [h3]
    rw [List.getElem?_map, List.getElem?_map, e1, e2] at this
    simp only [Option.map_some, Option.some.injEq] at this
    rw [e1, e2, wB_inj (ok2.nine _ (List.mem_of_getElem? e2)) (ok.nine _ (List.mem_of_getElem? e1)) this]
  · rw [List.getElem?_eq_none hi, List.getElem?_eq_none (by omega)]
theorem Res.same {s : ByteArray} {c1 c2 : Int} {r1 r2 : List (List Int)} {b1 b2 : Bool} (h : Res s c1 r1 b1) (k : Res s c2 r2 b2) : c2 = c1 ∧ r2 = r1 ∧ b2 = b1 := by
  rcases h with ⟨rfl, n, es, ok, e, rfl, rfl⟩ | ⟨rfl, rfl, rfl, no⟩
  · rcases k with ⟨rfl, m, fs, ok2, e2, rfl, rfl⟩ | ⟨rfl, rfl, rfl, no⟩
    · obtain ⟨rfl, rfl⟩ := frT_inj ok ok2 (e.trans e2.symm)
      exact ⟨rfl, rfl, rfl⟩
    · exact absurd e (no _ _ ok)
  · rcases k with ⟨rfl, m, fs, ok2, e2, rfl, rfl⟩ | ⟨rfl, rfl, rfl, no2⟩
    · exact absurd e2 (no _ _ ok2)
    · exact ⟨rfl, rfl, rfl⟩
theorem Res.small {s : ByteArray} {c : Int} {r : List (List Int)} {b : Bool} (h : Res s c r b) : r.length ≤ 100 ∧ totL r ≤ 200 := by
  rcases h with ⟨_, n, es, ok, _, _, rfl⟩ | ⟨_, _, rfl, _⟩
  · have h1 := ok.short
    have h2 := totL_le (zss := es.map erow) (b := 2) (fun zs hz => by
      obtain ⟨p, _, rfl⟩ := List.mem_map.1 hz
      simp [erow])
    rw [List.length_map] at h2 ⊢
    omega
  · simp [totL]
theorem markFrame_mr (lo hi : Nat) (cnt : Int) (A : Option Addr) (n c : Nat) (vs : List Value) (rows : List (List Int)) (k : Int) (w : World) (h : MR lo hi w A n c vs rows) (hb : hi ≤ w.heap.size) (h0 : 0 ≤ k) (h1 : k ≤ 1048576000) (ht : totL rows ≤ 1048576000) (hn : n ≤ 1048576000) :
    Calls Tryd.prog 7 #[.agg #[.int .i64 cnt, .slice A n c], .int .i64 k] w fun e w' => e = .returned (.int .i64 (k + totL rows)) ∧ MR lo hi w' A n c vs (iotas k rows) ∧ Only lo hi w w' := by
  have b0 := bel_alloc w (.cells #[.int .i64 cnt, .slice A n c] 24)
  have C0 := Cs.new w [.int .i64 cnt, .slice A n c] 24
  have y1 := C0.cell 1 rfl
  have B0 := Lib.hid b0
  clear C0 b0
  go_enter Tryd.func7, Tryd.ntmps7
  go_wp2_with fail
  refine (markInt64SS_any lo hi A n c vs rows k _ (h.below B0.out) h0 h1 ht hn).mono ?_
  rintro e w1 ⟨rfl, m, on, bs⟩
  have O := Lib.hid ((Only.of_below B0.out lo hi).trans on)
  have M := Lib.hid m
  clear m on bs
  go_wp2_with fail
  go_ret
  exact ⟨rfl, M.out, O.out⟩
theorem heldFrame_any (cnt : Int) (A : Option Addr) (n c : Nat) (rows : List (List Int)) (k : Int) (w : World) (h : Rws w A n c (iotas k rows)) (h0 : 0 ≤ k) (h1 : k ≤ 1048576000) (ht : totL rows ≤ 1048576000) (hn : n ≤ 1048576000) :
    Calls Tryd.prog 8 #[.agg #[.int .i64 cnt, .slice A n c], .int .i64 k] w fun e w' => e = .returned (.int .i64 (k + totL rows)) ∧ Below w.heap.size w w' := by
  have b0 := bel_alloc w (.cells #[.int .i64 cnt, .slice A n c] 24)
  have C0 := Cs.new w [.int .i64 cnt, .slice A n c] 24
  have y1 := C0.cell 1 rfl
  have B0 := Lib.hid b0
  clear C0 b0
  have d0 := decide_eq_false (show ¬ (k + (totL rows : Int)) < 0 by omega)
  go_enter Tryd.func8, Tryd.ntmps8
  go_wp2_with fail
  refine (heldInt64SS_any A n c rows k _ (h.below B0.out) h0 h1 ht hn).mono ?_
  rintro e w1 ⟨rfl, b1⟩
  have B1 := Lib.hid (bel_trans B0.out b1)
  clear b1
  go_wp2_with fail
  go_ret
  exact ⟨rfl, B1.out⟩
set_option maxHeartbeats 4000000 in
theorem fnExactReadFrame_walk (w : World) (L : Lb w) (s : ByteArray) (hmax : s.size ≤ maxLen) :
    Calls Tryd.prog 3 #[.string s] w fun e w' => e = .returned (.bool true) ∧ Below w.heap.size w w' := by
  have hml : s.size ≤ 9223372036854775807 := by unfold maxLen at hmax; omega
  by_cases hbig : 1048576 < s.size
  · have d0 := decide_eq_true (show (1048576 : Int) < (s.size : Int) by omega)
    go_enter Tryd.func3, Tryd.ntmps3
    go_wp2_with fail
    go_ret
    exact ⟨rfl, Below.refl _ _⟩
  · have d0 := decide_eq_false (show ¬ (1048576 : Int) < (s.size : Int) by omega)
    have hs : s.size ≤ 1048576 := by omega
    go_enter Tryd.func3, Tryd.ntmps3
    go_wp2_with fail
    refine (specRead_any s hs w).mono ?_
    rintro e w1 ⟨cnt, rows, b, A, c, vs, rfl, o1, R1, bb⟩
    have RS := Lib.hid R1
    obtain ⟨sm1, sm2⟩ := R1.small
    have qb : (b != b) = false := by simp
    have W := Lib.hid ((MR.mk' o1).below (bel_alloc w1 (.cells #[.int .i64 cnt, .slice A rows.length c] 24)))
    have D := Lib.hid (Cs.new w1 [.int .i64 cnt, .slice A rows.length c] 24)
    have BB := Lib.hid (bel_trans bb (bel_alloc w1 (.cells #[.int .i64 cnt, .slice A rows.length c] 24)))
    have s1 := bb.size
    have s2 : (w1.alloc (.cells #[.int .i64 cnt, .slice A rows.length c] 24)).heap.size = w1.heap.size + 1 := by simp
    clear R1 o1 bb
    go_wp2_with fail
    obtain ⟨w2, hw2⟩ : ∃ z, w1.alloc (.cells #[.int .i64 cnt, .slice A rows.length c] 24) = z := ⟨_, rfl⟩
    rw [hw2] at W BB s2 ⊢
    have D0 : Hid (Cs w2 w1.heap.size [.int .i64 cnt, .slice A rows.length c]) := by rw [← hw2]; exact D.out
    clear hw2 D
    refine (implRead_any s hs w2 (L.below BB.out)).mono ?_
    rintro e w3 ⟨cnt', rows', b', A', c', vs', rfl, o3, R3, b3⟩
    obtain ⟨rfl, rfl, rfl⟩ := RS.out.same R3
    have s3 := b3.size
    have u4 := bel_trans b3 (bel_alloc w3 (.cells #[.int .i64 cnt', .slice A' rows'.length c'] 24))
    have W4 := Lib.hid (W.out.below u4)
    have D4 := Lib.hid (D0.out.below u4)
    have G4 := Lib.hid ((MR.mk' o3).below (bel_alloc w3 (.cells #[.int .i64 cnt', .slice A' rows'.length c'] 24)))
    have E4 := Lib.hid (Cs.new w3 [.int .i64 cnt', .slice A' rows'.length c'] 24)
    have B4 := Lib.hid (bel_trans BB.out u4)
    have s4 : (w3.alloc (.cells #[.int .i64 cnt', .slice A' rows'.length c'] 24)).heap.size = w3.heap.size + 1 := by simp
    clear W D0 BB u4 o3 R3 b3
    have x0 := E4.out.cell 0 rfl
    have x1 := E4.out.cell 1 rfl
    have y0 := D4.out.cell 0 rfl
    have y1 := D4.out.cell 1 rfl
    go_wp2_with fail
    obtain ⟨w4, hw4⟩ : ∃ z, w3.alloc (.cells #[.int .i64 cnt', .slice A' rows'.length c'] 24) = z := ⟨_, rfl⟩
    have E5 : Hid (Cs w4 w3.heap.size [.int .i64 cnt', .slice A' rows'.length c']) := by rw [← hw4]; exact E4.out
    rw [hw4] at W4 D4 G4 B4 s4 ⊢
    clear hw4 E4 x0 x1 y0 y1
    refine (eqFrame_same cnt' A' _ c' rows' A c w4 G4.out.own.rws W4.out.own.rws).mono ?_
    rintro e w5 ⟨rfl, u5⟩
    have s5 := u5.size
    have W5 := Lib.hid (W4.out.below u5)
    have D5 := Lib.hid (D4.out.below u5)
    have G5 := Lib.hid (G4.out.below u5)
    have F5 := Lib.hid (E5.out.below u5)
    have B5 := Lib.hid (bel_trans B4.out u5)
    clear W4 D4 G4 E5 B4 u5
    have x0 := F5.out.cell 0 rfl
    have x1 := F5.out.cell 1 rfl
    go_wp2_with fail
    refine (markFrame_mr _ _ cnt' A' _ c' vs' rows' 1 w5 G5.out (by omega) (by omega) (by omega) (by omega) (by omega)).mono ?_
    rintro e w6 ⟨rfl, m6, on6⟩
    have s6 := on6.size
    have W6 := Lib.hid (W5.out.only on6 (by unfold Off; omega))
    have D6 := Lib.hid (D5.out.onlyF on6 (by omega))
    have F6 := Lib.hid (F5.out.onlyF on6 (by omega))
    have G6 := Lib.hid m6
    have B6 := Lib.hid (bel_only B5.out on6 (by omega))
    clear W5 D5 F5 G5 B5 on6 m6 x0 x1
    have x0 := F6.out.cell 0 rfl
    have x1 := F6.out.cell 1 rfl
    go_wp2_with fail
    refine (heldFrame_any cnt' A' _ c' rows' 1 w6 G6.out.own.rws (by omega) (by omega) (by omega) (by omega)).mono ?_
    rintro e w7 ⟨rfl, u7⟩
    have s7 := u7.size
    have W7 := Lib.hid (W6.out.below u7)
    have D7 := Lib.hid (D6.out.below u7)
    have G7 := Lib.hid (G6.out.below u7)
    have F7 := Lib.hid (F6.out.below u7)
    have B7 := Lib.hid (bel_trans B6.out u7)
    have d7 := decide_eq_false (show ¬ (1 + (totL rows' : Int)) < 0 by omega)
    have q7 : ((1 + (totL rows' : Int)) != (1 + (totL rows' : Int))) = false := by simp
    clear W6 D6 G6 F6 B6 u7 x0 x1
    go_wp2_with fail
    refine (implRead_any s hs w7 (L.below B7.out)).mono ?_
    rintro e w8 ⟨cnt9, rows9, b9, A9, c9, vs9, rfl, o8, R8, b8⟩
    obtain ⟨rfl, rfl, rfl⟩ := RS.out.same R8
    have s8 := b8.size
    have u9 := bel_trans b8 (bel_alloc w8 (.cells #[.int .i64 cnt9, .slice A9 rows9.length c9] 24))
    have W9 := Lib.hid (W7.out.below u9)
    have D9 := Lib.hid (D7.out.below u9)
    have G9 := Lib.hid (G7.out.below u9)
    have F9 := Lib.hid (F7.out.below u9)
    have H9 := Lib.hid ((MR.mk' o8).below (bel_alloc w8 (.cells #[.int .i64 cnt9, .slice A9 rows9.length c9] 24)))
    have E9 := Lib.hid (Cs.new w8 [.int .i64 cnt9, .slice A9 rows9.length c9] 24)
    have B9 := Lib.hid (bel_trans B7.out u9)
    have s9 : (w8.alloc (.cells #[.int .i64 cnt9, .slice A9 rows9.length c9] 24)).heap.size = w8.heap.size + 1 := by simp
    clear W7 D7 G7 F7 B7 u9 o8 R8 b8
    have x0 := E9.out.cell 0 rfl
    have x1 := E9.out.cell 1 rfl
    have y0 := D9.out.cell 0 rfl
    have y1 := D9.out.cell 1 rfl
    go_wp2_with fail
    obtain ⟨w9, hw9⟩ : ∃ z, w8.alloc (.cells #[.int .i64 cnt9, .slice A9 rows9.length c9] 24) = z := ⟨_, rfl⟩
    rw [hw9] at W9 D9 G9 F9 H9 B9 s9 ⊢
    clear hw9 E9 x0 x1 y0 y1
    refine (eqFrame_same cnt9 A9 _ c9 rows9 A c w9 H9.out.own.rws W9.out.own.rws).mono ?_
    rintro e wA ⟨rfl, uA⟩
    have GA := Lib.hid (G9.out.below uA)
    have FA := Lib.hid (F9.out.below uA)
    have BA := Lib.hid (bel_trans B9.out uA)
    clear W9 D9 G9 F9 H9 B9 uA
    have x0 := FA.out.cell 0 rfl
    have x1 := FA.out.cell 1 rfl
    go_wp2_with fail
    refine (heldFrame_any cnt9 A' _ c' rows9 1 wA GA.out.own.rws (by omega) (by omega) (by omega) (by omega)).mono ?_
    rintro e wB ⟨rfl, uB⟩
    have BB := Lib.hid (bel_trans BA.out uB)
    clear x0 x1 GA FA uB
    go_wp2_with fail
    go_ret
    exact ⟨rfl, BB.out⟩
end Go.Proofs.YteehbnanjgmliaaDoor
