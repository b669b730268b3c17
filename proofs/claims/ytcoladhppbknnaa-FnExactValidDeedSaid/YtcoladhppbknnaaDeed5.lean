/- The laws' helpers on edits and deeds: comparisons and sizes. -/
import Derived.Test.YtcoladhppbknnaaDeed4

namespace Go.Proofs.Ytcoladhppbknnaa
set_option linter.unusedVariables false
set_option linter.unusedSimpArgs false
set_option maxRecDepth 100000
open Go.RowKit Go.Deep
theorem szI_st (A : Option Addr) (n c : Nat) (left : Int) (w : World) (hn : n ≤ 9223372036854775807) (h0 : 0 ≤ left) (h1 : left ≤ 1048576) :
    Calls Try.prog 37 #[.slice A n c, .int .i64 left] w fun e w' => e = .returned (.int .i64 (if left < n then -1 else left - n)) ∧ w = w' := by
  by_cases h : left < n
  · rw [if_pos h]
    have ew : IntKind.i64.wrap (left - n) = left - n := IntWalk.i64_in _ (by omega)
    have d0 := decide_eq_true (show left - (n : Int) < 0 by omega)
    go_enter Try.func37, Try.ntmps37
    go_wp2_with fail
    go_ret
    exact ⟨rfl, rfl⟩
  · rw [if_neg h]
    have ew : IntKind.i64.wrap (left - n) = left - n := IntWalk.i64_in _ (by omega)
    have d0 := decide_eq_false (show ¬ left - (n : Int) < 0 by omega)
    go_enter Try.func37, Try.ntmps37
    go_wp2_with fail
    go_ret
    exact ⟨rfl, rfl⟩
theorem eqEdit_same (e : Ed) (w : World) : Calls Try.prog 96 #[.agg #[.int .i64 e.kind, .int .i64 e.id, .string e.old, .string e.new], .agg #[.int .i64 e.kind, .int .i64 e.id, .string e.old, .string e.new]] w fun x w' => x = .returned (.bool true) ∧ Below w.heap.size w w' := by
  obtain ⟨kd, id, old, new⟩ := e
  simp only
  have b1 := bel_alloc w (.cells #[.int .i64 kd, .int .i64 id, .string old, .string new] 74)
  have C1 := Cs.new w [.int .i64 kd, .int .i64 id, .string old, .string new] 74
  have C2 := Cs.new (w.alloc (.cells #[.int .i64 kd, .int .i64 id, .string old, .string new] 74)) [.int .i64 kd, .int .i64 id, .string old, .string new] 74
  have b0 := bel_alloc (w.alloc (.cells #[.int .i64 kd, .int .i64 id, .string old, .string new] 74)) (.cells #[.int .i64 kd, .int .i64 id, .string old, .string new] 74)
  replace C1 := C1.below b0
  have b2 := Lib.hid (bel_trans b1 b0)
  have hs : (w.alloc (.cells #[.int .i64 kd, .int .i64 id, .string old, .string new] 74)).heap.size = w.heap.size + 1 := by simp
  rw [hs] at C2
  have x0 := C1.cell 0 rfl
  have x1 := C1.cell 1 rfl
  have x2 := C1.cell 2 rfl
  have x3 := C1.cell 3 rfl
  have z0 := C2.cell 0 rfl
  have z1 := C2.cell 1 rfl
  have z2 := C2.cell 2 rfl
  have z3 := C2.cell 3 rfl
  have e1 : (kd != kd) = false := by simp
  have e2 : (id != id) = false := by simp
  have e3 : (old.toList == old.toList) = true := by simp
  have e4 : (new.toList == new.toList) = true := by simp
  clear C1 C2 b1 b0 hs
  go_enter Try.func96, Try.ntmps96
  go_wp2_with fail
  go_ret
  exact ⟨rfl, b2.out⟩
set_option maxHeartbeats 1000000 in
theorem eqEditS_same (A : Option Addr) (n c : Nat) (B : Option Addr) (d : Nat) (es : List Ed) (w : World) (h : Eds w A n c es) (k : Eds w B n d es) :
    Calls Try.prog 48 #[.slice A n c, .slice B n d] w fun x w' => x = .returned (.bool true) ∧ Below w.heap.size w w' := by
  obtain rfl : es.length = n := h.len
  have c64 := h.short
  have H := Lib.hid h
  have K := Lib.hid k
  clear h k
  go_enter Try.func48, Try.ntmps48
  go_wp2_with fail
  go_loopw [5] (fun i wr => ∃ k : Nat, k ≤ es.length ∧ i = .int .i64 k ∧ Below w.heap.size w wr) (fun i _ => es.length - (intOf i).toNat)
  case atStart => exact ⟨0, Nat.zero_le _, rfl, Below.refl _ _⟩
  case round =>
    obtain ⟨k, hk, rfl, hbel⟩ := hrel
    have HB := Lib.hid hbel
    clear hbel
    by_cases hlt : k < es.length
    · have d0 := decide_eq_true (show (k : Int) < (es.length : Int) by omega)
      have k0 : (0 : Int) ≤ (k : Int) := by omega
      have k1 : (k : Int) < (es.length : Int) := by omega
      obtain ⟨b, off, e, rfl, hb, he, ok, y0, y1, y2, y3⟩ := (H.out.below HB.out).at hlt
      obtain ⟨b2, off2, e2, rfl, hb2, he2, ok2, z0, z1, z2, z3⟩ := (K.out.below HB.out).at hlt
      have ee : some e = some e2 := he.out.symm.trans he2.out
      injection ee with ee
      subst ee
      clear ok2 he2
      go_wp2_with fail
      refine wp_region_noPanic ?_
      refine wp_region_R (inFirst (fun W => Below wr.heap.size wr W ∧ W.cell? ⟨b, off + k * 4, none⟩ = some (.int .i64 e.kind) ∧ W.cell? ⟨b, off + k * 4 + 1, none⟩ = some (.int .i64 e.id) ∧ W.cell? ⟨b, off + k * 4 + 2, none⟩ = some (.string e.old) ∧ W.cell? ⟨b, off + k * 4 + 3, none⟩ = some (.string e.new) ∧ W.cell? ⟨b2, off2 + k * 4, none⟩ = some (.int .i64 e.kind) ∧ W.cell? ⟨b2, off2 + k * 4 + 1, none⟩ = some (.int .i64 e.id) ∧ W.cell? ⟨b2, off2 + k * 4 + 2, none⟩ = some (.string e.old) ∧ W.cell? ⟨b2, off2 + k * 4 + 3, none⟩ = some (.string e.new)) 10) (by kernel_rfl) ?_
      have SS := Lib.hid (fun (W : World) (hW : Below wr.heap.size wr W) => (show Below wr.heap.size wr W ∧ W.cell? ⟨b, off + k * 4, none⟩ = some (.int .i64 e.kind) ∧ W.cell? ⟨b, off + k * 4 + 1, none⟩ = some (.int .i64 e.id) ∧ W.cell? ⟨b, off + k * 4 + 2, none⟩ = some (.string e.old) ∧ W.cell? ⟨b, off + k * 4 + 3, none⟩ = some (.string e.new) ∧ W.cell? ⟨b2, off2 + k * 4, none⟩ = some (.int .i64 e.kind) ∧ W.cell? ⟨b2, off2 + k * 4 + 1, none⟩ = some (.int .i64 e.id) ∧ W.cell? ⟨b2, off2 + k * 4 + 2, none⟩ = some (.string e.old) ∧ W.cell? ⟨b2, off2 + k * 4 + 3, none⟩ = some (.string e.new) from ⟨hW, (hW.cell (p := ⟨b, off + k * 4, none⟩) hb).trans y0, (hW.cell (p := ⟨b, off + k * 4 + 1, none⟩) hb).trans y1, (hW.cell (p := ⟨b, off + k * 4 + 2, none⟩) hb).trans y2, (hW.cell (p := ⟨b, off + k * 4 + 3, none⟩) hb).trans y3, (hW.cell (p := ⟨b2, off2 + k * 4, none⟩) hb2).trans z0, (hW.cell (p := ⟨b2, off2 + k * 4 + 1, none⟩) hb2).trans z1, (hW.cell (p := ⟨b2, off2 + k * 4 + 2, none⟩) hb2).trans z2, (hW.cell (p := ⟨b2, off2 + k * 4 + 3, none⟩) hb2).trans z3⟩))
      have hS := SS.out wr.drew ⟨rfl, rfl, rfl, Nat.le_refl _, fun _ _ => rfl⟩
      refine anyR_take (i := 0) (.slice (some ⟨b, off, none⟩) es.length c) rfl (by kernel_rfl) (by kernel_rfl) (by kernel_rfl) (by kernel_rfl) (fun _ _ _ h => h) (by assumption) ⟨by rfl, ?_⟩ ?_
      · intro W hW
        go_simp
      try simp only [Act.put, List.setIfInBounds_toArray, List.set_cons_zero, List.set_cons_succ, List.getElem_toArray, List.getElem_cons_zero, List.getElem_cons_succ]
      refine anyR_take (i := 1) (.int .i64 k) rfl (by kernel_rfl) (by kernel_rfl) (by kernel_rfl) (by kernel_rfl) (fun _ _ _ h => h) (by assumption) ⟨by rfl, ?_⟩ ?_
      · intro W hW
        go_simp
      try simp only [Act.put, List.setIfInBounds_toArray, List.set_cons_zero, List.set_cons_succ, List.getElem_toArray, List.getElem_cons_zero, List.getElem_cons_succ]
      refine anyR_take (i := 2) (.pointer (some ⟨b, off + k * 4, none⟩)) rfl (by kernel_rfl) (by kernel_rfl) (by kernel_rfl) (by kernel_rfl) (fun _ _ _ h => h) (by assumption) ⟨by rfl, ?_⟩ ?_
      · intro W hW
        go_simp
      try simp only [Act.put, List.setIfInBounds_toArray, List.set_cons_zero, List.set_cons_succ, List.getElem_toArray, List.getElem_cons_zero, List.getElem_cons_succ]
      refine anyR_take (i := 3) (.agg #[.int .i64 e.kind, .int .i64 e.id, .string e.old, .string e.new]) rfl (by kernel_rfl) (by kernel_rfl) (by kernel_rfl) (by kernel_rfl) (fun _ _ _ h => h) (by assumption) ⟨by rfl, ?_⟩ ?_
      · intro W hW
        go_simp
      try simp only [Act.put, List.setIfInBounds_toArray, List.set_cons_zero, List.set_cons_succ, List.getElem_toArray, List.getElem_cons_zero, List.getElem_cons_succ]
      refine anyR_take (i := 4) (.slice (some ⟨b2, off2, none⟩) es.length d) rfl (by kernel_rfl) (by kernel_rfl) (by kernel_rfl) (by kernel_rfl) (fun _ _ _ h => h) (by assumption) ⟨by rfl, ?_⟩ ?_
      · intro W hW
        go_simp
      try simp only [Act.put, List.setIfInBounds_toArray, List.set_cons_zero, List.set_cons_succ, List.getElem_toArray, List.getElem_cons_zero, List.getElem_cons_succ]
      refine anyR_take (i := 5) (.int .i64 k) rfl (by kernel_rfl) (by kernel_rfl) (by kernel_rfl) (by kernel_rfl) (fun _ _ _ h => h) (by assumption) ⟨by rfl, ?_⟩ ?_
      · intro W hW
        go_simp
      try simp only [Act.put, List.setIfInBounds_toArray, List.set_cons_zero, List.set_cons_succ, List.getElem_toArray, List.getElem_cons_zero, List.getElem_cons_succ]
      refine anyR_take (i := 6) (.pointer (some ⟨b2, off2 + k * 4, none⟩)) rfl (by kernel_rfl) (by kernel_rfl) (by kernel_rfl) (by kernel_rfl) (fun _ _ _ h => h) (by assumption) ⟨by rfl, ?_⟩ ?_
      · intro W hW
        go_simp
      try simp only [Act.put, List.setIfInBounds_toArray, List.set_cons_zero, List.set_cons_succ, List.getElem_toArray, List.getElem_cons_zero, List.getElem_cons_succ]
      refine anyR_take (i := 7) (.agg #[.int .i64 e.kind, .int .i64 e.id, .string e.old, .string e.new]) rfl (by kernel_rfl) (by kernel_rfl) (by kernel_rfl) (by kernel_rfl) (fun _ _ _ h => h) (by assumption) ⟨by rfl, ?_⟩ ?_
      · intro W hW
        go_simp
      try simp only [Act.put, List.setIfInBounds_toArray, List.set_cons_zero, List.set_cons_succ, List.getElem_toArray, List.getElem_cons_zero, List.getElem_cons_succ]
      refine anyR_one (i := 8) (by kernel_rfl) rfl ?_
      intro K hK
      go_simp
      go_at_call 96
      refine (eqEdit_same e _).mono ?_
      rintro x w9 ⟨rfl, u9⟩
      have hT := SS.out _ (bel_trans hS.1 u9)
      refine hK.out _ _ (fun _ => hT) ?_
      clear hS u9
      have hS := hT
      clear hT
      clear hK K
      try simp only [Act.put, List.setIfInBounds_toArray, List.set_cons_zero, List.set_cons_succ, List.getElem_toArray, List.getElem_cons_zero, List.getElem_cons_succ]
      refine anyR_take (i := 9) (.bool false) rfl (by kernel_rfl) (by kernel_rfl) (by kernel_rfl) (by kernel_rfl) (fun _ _ _ h => h) (by assumption) ⟨by rfl, ?_⟩ ?_
      · intro W hW
        go_simp
      try simp only [Act.put, List.setIfInBounds_toArray, List.set_cons_zero, List.set_cons_succ, List.getElem_toArray, List.getElem_cons_zero, List.getElem_cons_succ]
      refine anyR_done (by kernel_rfl) ?_ _
      refine NoPanic.normal ?_
      have BU := Lib.hid hS.1
      clear hS SS
      go_wp2_with fail
      go_roundw
      case rel => exact ⟨k + 1, by omega, by go_num, bel_trans HB.out BU.out⟩
      case measure => simp [intOf]; omega
    · obtain rfl : es.length = k := by omega
      have d0 := decide_eq_false (show ¬ (es.length : Int) < (es.length : Int) by omega)
      go_wp2_with fail
      go_ret
      exact ⟨rfl, HB.out⟩
theorem szEdit_any (e : Ed) (left : Int) (h0 : 0 ≤ left) (h1 : left ≤ 1048576) (so : e.old.size ≤ 9223372036854775807) (sn : e.new.size ≤ 9223372036854775807) (w : World) : Calls Try.prog 88 #[.agg #[.int .i64 e.kind, .int .i64 e.id, .string e.old, .string e.new], .int .i64 left] w fun x w' => ∃ r : Int, x = .returned (.int .i64 r) ∧ r ≤ left ∧ Below w.heap.size w w' := by
  obtain ⟨kd, id, old, new⟩ := e
  simp only at *
  have b1 := Lib.hid (bel_alloc w (.cells #[.int .i64 kd, .int .i64 id, .string old, .string new] 117))
  have C1 := Cs.new w [.int .i64 kd, .int .i64 id, .string old, .string new] 117
  have x2 := C1.cell 2 rfl
  have x3 := C1.cell 3 rfl
  clear C1
  have w1 : IntKind.i64.wrap (left - (old.size : Int)) = left - old.size := IntWalk.i64_in _ (by omega)
  by_cases q1 : left - (old.size : Int) < 0
  · have d1 := decide_eq_true q1
    go_enter Try.func88, Try.ntmps88
    go_wp2_with fail
    go_ret
    exact ⟨-1, rfl, by omega, b1.out⟩
  have d1 := decide_eq_false q1
  have w2 : IntKind.i64.wrap (left - (old.size : Int) - (new.size : Int)) = left - old.size - new.size := IntWalk.i64_in _ (by omega)
  by_cases q2 : left - (old.size : Int) - (new.size : Int) < 0
  · have d2 := decide_eq_true q2
    go_enter Try.func88, Try.ntmps88
    go_wp2_with fail
    go_ret
    exact ⟨-1, rfl, by omega, b1.out⟩
  have d2 := decide_eq_false q2
  go_enter Try.func88, Try.ntmps88
  go_wp2_with fail
  go_ret
  exact ⟨_, rfl, by omega, b1.out⟩
theorem szEditS_any (A : Option Addr) (n c : Nat) (es : List Ed) (left : Int) (h0 : 0 ≤ left) (h1 : left ≤ 1048576) (w : World) (h : Eds w A n c es) :
    Calls Try.prog 38 #[.slice A n c, .int .i64 left] w fun x w' => ∃ r : Int, x = .returned (.int .i64 r) ∧ (r < 0 ∨ ((n : Int) ≤ left ∧ r ≤ left)) ∧ Below w.heap.size w w' := by
  obtain rfl : es.length = n := h.len
  have c64 := h.short
  have H := Lib.hid h
  clear h
  have w1 : IntKind.i64.wrap (left - (es.length : Int)) = left - es.length := IntWalk.i64_in _ (by omega)
  by_cases q1 : left - (es.length : Int) < 0
  · have d1 := decide_eq_true q1
    go_enter Try.func38, Try.ntmps38
    go_wp2_with fail
    go_ret
    exact ⟨-1, rfl, .inl (by omega), Below.refl _ _⟩
  have d1 := decide_eq_false q1
  go_enter Try.func38, Try.ntmps38
  go_wp2_with fail
  clear d1 w1
  go_loopw [1, 5] (fun l i wr => ∃ (k : Nat) (x : Int), k ≤ es.length ∧ i = .int .i64 k ∧ l = .int .i64 x ∧ 0 ≤ x ∧ x ≤ left - es.length ∧ Below w.heap.size w wr) (fun _ i _ => es.length - (intOf i).toNat)
  case atStart => exact ⟨0, left - es.length, Nat.zero_le _, rfl, rfl, by omega, by omega, Below.refl _ _⟩
  case round =>
    obtain ⟨k, x, hk, rfl, rfl, hx0, hx1, hbel⟩ := hrel
    have HB := Lib.hid hbel
    clear hbel
    by_cases hlt : k < es.length
    · have d0 := decide_eq_true (show (k : Int) < (es.length : Int) by omega)
      obtain ⟨b, off, e, rfl, hb, he, ok, y0, y1, y2, y3⟩ := (H.out.below HB.out).at hlt
      go_wp2_with fail
      refine (szEdit_any e x hx0 (by omega) ok.old ok.new _).mono ?_
      rintro v w9 ⟨r, rfl, hr, b9⟩
      have HB9 := Lib.hid (bel_trans HB.out b9)
      clear b9
      by_cases hneg : r < 0
      · have d1 := decide_eq_true hneg
        go_wp2_with fail
        go_ret
        exact ⟨-1, rfl, .inl (by omega), HB9.out⟩
      · have d1 := decide_eq_false hneg
        go_wp2_with fail
        go_roundw
        case rel => exact ⟨k + 1, r, by omega, by go_num, rfl, by omega, by omega, HB9.out⟩
        case measure => simp [intOf]; omega
    · obtain rfl : es.length = k := by omega
      have d0 := decide_eq_false (show ¬ (es.length : Int) < (es.length : Int) by omega)
      go_wp2_with fail
      go_ret
      exact ⟨x, rfl, .inr ⟨by omega, by omega⟩, HB.out⟩
end Go.Proofs.Ytcoladhppbknnaa
