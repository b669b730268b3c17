/- The laws' helpers on edits: copies, sizes, comparisons. -/
import Derived.Test.YtcoladhppbknnaaDeed
namespace Go.Proofs.Ytcoladhppbknnaa
set_option linter.unusedVariables false
set_option linter.unusedSimpArgs false
set_option maxRecDepth 100000
open Go.RowKit Go.Deep
theorem OwnR.put4 {t : Nat} {w : World} {base g n c : Nat} {rs : List (List Value)} (h : OwnR t 4 w base (some ⟨g, 0, none⟩) n c rs) {j : Nat} (hj : j < n) (x0 x1 x2 x3 : Value) :
    OwnR t 4 ((((w.setCell ⟨g, j * 4, none⟩ x0).setCell ⟨g, j * 4 + 1, none⟩ x1).setCell ⟨g, j * 4 + 2, none⟩ x2).setCell ⟨g, j * 4 + 3, none⟩ x3) base (some ⟨g, 0, none⟩) n c (rs.set j [x0, x1, x2, x3]) := by
  have hl : j < rs.length := by rw [h.2.1]; exact hj
  obtain ⟨r, hr⟩ : ∃ r, rs[j]? = some r := ⟨_, List.getElem?_eq_getElem hl⟩
  have r4 := h.2.2 r (List.mem_of_getElem? hr)
  have p0 := (h.put (i := 0) x0 hr (by omega)).1
  have hl0 : j < (rs.set j (r.set 0 x0)).length := by rw [List.length_set]; exact hl
  have p1 := (p0.put (i := 1) x1 (List.getElem?_set_self hl) (by omega)).1
  rw [List.set_set] at p1
  have p2 := (p1.put (i := 2) x2 (List.getElem?_set_self hl) (by omega)).1
  rw [List.set_set] at p2
  have p3 := (p2.put (i := 3) x3 (List.getElem?_set_self hl) (by omega)).1
  rw [List.set_set] at p3
  have e : (((r.set 0 x0).set 1 x1).set 2 x2).set 3 x3 = [x0, x1, x2, x3] := by
    match r, r4 with
    | [a, b, c, d], _ => rfl
  rw [e] at p3
  exact p3
theorem ed_vals (e : Ed) : e.vals = [.int .i64 e.kind, .int .i64 e.id, .string e.old, .string e.new] := rfl
theorem OwnR.eds {t : Nat} {w : World} {base : Nat} {A : Option Addr} {n c : Nat} {es : List Ed} (h : OwnR t 4 w base A n c (es.map Ed.vals)) (ok : ∀ e ∈ es, EdOk e) : Eds w A n c es := ⟨h.recs, ok⟩
theorem toEdit_any (e : Ed) (w : World) : Calls Try.prog 94 #[.agg #[.int .i64 e.kind, .int .i64 e.id, .string e.old, .string e.new]] w fun x w' => x = .returned (.agg #[.int .i64 e.kind, .int .i64 e.id, .string e.old, .string e.new]) ∧ Below w.heap.size w w' := by
  obtain ⟨kd, id, old, new⟩ := e
  simp only
  have b1 := bel_alloc w (.cells #[.int .i64 kd, .int .i64 id, .string old, .string new] 117)
  have b2 := bel_trans b1 (bel_alloc _ (.cells #[.int .i64 kd, .int .i64 id, .string old, .string new] 74))
  have b3 := bel_trans b2 (bel_alloc _ (.cells #[.int .i64 kd, .int .i64 id, .string old, .string new] 74))
  have C := Cs.new (w.alloc (.cells #[.int .i64 kd, .int .i64 id, .string old, .string new] 117)) [.int .i64 kd, .int .i64 id, .string old, .string new] 74
  have hs : (w.alloc (.cells #[.int .i64 kd, .int .i64 id, .string old, .string new] 117)).heap.size = w.heap.size + 1 := by simp
  rw [hs] at C
  replace C := Lib.hid (C.below (bel_alloc _ (.cells #[.int .i64 kd, .int .i64 id, .string old, .string new] 74)))
  have B := Lib.hid b3
  clear b1 b2 b3 hs
  go_enter Try.func94, Try.ntmps94
  go_wp2_with fail
  have x0 := C.out.cell 0 rfl
  have x1 := C.out.cell 1 rfl
  have x2 := C.out.cell 2 rfl
  have x3 := C.out.cell 3 rfl
  exact bodyPost_ret (v := .agg #[.int .i64 kd, .int .i64 id, .string old, .string new]) (by simp [results, Try.results94, go_sem, x0, x1, x2, x3]) rfl ⟨rfl, B.out⟩
theorem info_ed : (Try.prog.info? 74).map (fun i => (i.zero, i.size, i.bytes)) = some (some (.agg #[.int .i64 0, .int .i64 0, .string ByteArray.empty, .string ByteArray.empty]), 4, 48) := by kernel_rfl
theorem madeEd (n : Nat) : madeCells #[.int .i64 0, .int .i64 0, .string ByteArray.empty, .string ByteArray.empty] (n * 4) = (List.replicate n dEd.vals).flatten.toArray := by
  apply Array.toList_inj.1
  rw [List.toList_toArray]
  apply List.ext_getElem?
  intro i
  by_cases hi : i < n * 4
  · have hr : (List.replicate n dEd.vals)[i / 4]? = some dEd.vals := by rw [List.getElem?_replicate, if_pos (by omega)]
    have K := fun v (hv : dEd.vals[i % 4]? = some v) => flat_at (s := 4) (rs := List.replicate n dEd.vals) (fun r hr => by rw [List.eq_of_mem_replicate hr]; rfl) hr hv
    rw [show i / 4 * 4 + i % 4 = i by omega] at K
    have L : ∀ z : Array Value, (madeCells z (n * 4)).toList[i]? = some (z[i % z.size]!) := fun z => by simp [madeCells, List.getElem?_range hi]
    rw [L]
    have h4 : i % 4 = 0 ∨ i % 4 = 1 ∨ i % 4 = 2 ∨ i % 4 = 3 := by omega
    show some (_ : Value) = _
    rcases h4 with h | h | h | h <;> (rw [h] at K; symm; apply K; simp [h]; rfl)
  · rw [List.getElem?_eq_none (by simp [size_madeCells]; omega), List.getElem?_eq_none]
    rw [flat_len (s := 4) (fun r hr => by rw [List.eq_of_mem_replicate hr]; rfl), List.length_replicate]
    omega
theorem toEditS_any (A : Option Addr) (n c : Nat) (es : List Ed) (w : World) (h : Eds w A n c es) (hn : n ≤ 1048576) :
    Calls Try.prog 41 #[.slice A n c] w fun e w' => ∃ A' c', e = .returned (.slice A' n c') ∧ OwnR 74 4 w' w.heap.size A' n c' (es.map Ed.vals) ∧ Below w.heap.size w w' := by
  obtain rfl : es.length = n := h.len
  have H := Lib.hid h
  have c64 := h.short
  clear h
  obtain ⟨i0, hi, hzz⟩ := Option.map_eq_some_iff.1 info_ed
  simp only [Prod.mk.injEq] at hzz
  obtain ⟨hz0, hz1, hz2⟩ := hzz
  have hmk : ∀ W, (Instr.makeSlice 28 (.int .i64 (es.length : Int)) (.int .i64 (es.length : Int))).run Try.prog W = .ok (.slice (some ⟨W.heap.size, 0, none⟩) es.length es.length) (W.alloc (.cells (List.replicate es.length dEd.vals).flatten.toArray 74)) := fun W => by
    have := run_make (P := Try.prog) W 28 74 i0 _ Try.underlying28 hi hz0 .i64 .i64 es.length es.length (by omega) (Int.le_refl _) (by rw [hz2]; omega) (by omega)
    rw [hz1] at this
    rw [← madeEd]
    exact this
  clear hi hz0 hz1 hz2
  go_enter Try.func41, Try.ntmps41
  go_wp2_with fail
  clear hmk
  go_loopw [4] (fun i wr => ∃ k : Nat, k ≤ es.length ∧ i = .int .i64 k ∧ OwnR 74 4 wr w.heap.size (some ⟨w.heap.size, 0, none⟩) es.length es.length ((es.take k).map Ed.vals ++ List.replicate (es.length - k) dEd.vals) ∧ Below w.heap.size w wr) (fun i _ => es.length - (intOf i).toNat)
  case atStart =>
    refine ⟨0, Nat.zero_le _, rfl, ?_, bel_alloc _ _⟩
    have := ownR_lits (t := 74) (s := 4) (rs := List.replicate es.length dEd.vals) w (by intro r hr; rw [List.eq_of_mem_replicate hr]; rfl) (by rw [List.length_replicate]; unfold maxLen; omega)
    rw [List.length_replicate] at this
    simpa using this
  case round =>
    obtain ⟨k, hk, rfl, hO, hbel⟩ := hrel
    have HO := Lib.hid hO
    have HB := Lib.hid hbel
    clear hO hbel
    by_cases hlt : k < es.length
    · have d0 := decide_eq_true (show (k : Int) < (es.length : Int) by omega)
      obtain ⟨b, off, e, rfl, hb, he, ok, y0, y1, y2, y3⟩ := (H.out.below HB.out).at hlt
      go_wp2_with fail
      refine (toEdit_any e _).mono ?_
      rintro x w1 ⟨rfl, b1⟩
      have HO1 := Lib.hid (HO.out.below b1)
      have HB1 := Lib.hid (bel_trans HB.out b1)
      clear b1 y0 y1 y2 y3
      have f0 := HO1.out.free (k * 4)
      have f1 := HO1.out.free (k * 4 + 1)
      have f2 := HO1.out.free (k * 4 + 2)
      have f3 := HO1.out.free (k * 4 + 3)
      have RD : Hid (((es.take k).map Ed.vals ++ List.replicate (es.length - k) dEd.vals)[k]? = some dEd.vals) := by
        show _ = _
        rw [List.getElem?_append_right (by simp; omega), List.getElem?_replicate]
        rw [if_pos (by simp; omega)]
      have v0 := HO1.out.cell (i := 0) RD.out rfl
      have v1 := HO1.out.cell (i := 1) RD.out rfl
      have v2 := HO1.out.cell (i := 2) RD.out rfl
      have v3 := HO1.out.cell (i := 3) RD.out rfl
      rw [Nat.add_zero] at v0
      have PUT := Lib.hid (HO1.out.put4 hlt (.int .i64 e.kind) (.int .i64 e.id) (.string e.old) (.string e.new))
      go_wp2_with fail
      go_roundw
      case rel =>
        refine ⟨k + 1, by omega, by go_num, ?_, (((HB1.out.setCell (Nat.le_refl _) _).setCell (Nat.le_refl _) _).setCell (Nat.le_refl _) _).setCell (Nat.le_refl _) _⟩
        have := PUT.out
        have e9 : ((es.take k).map Ed.vals ++ List.replicate (es.length - k) dEd.vals).set k [.int .i64 e.kind, .int .i64 e.id, .string e.old, .string e.new] = (es.take (k + 1)).map Ed.vals ++ List.replicate (es.length - (k + 1)) dEd.vals := by
          obtain ⟨m, hm⟩ : ∃ m, es.length - k = m + 1 := ⟨es.length - k - 1, by omega⟩
          have hm2 : es.length - (k + 1) = m := by omega
          rw [hm, hm2, List.set_append_right _ _ (by simp; omega), List.length_map, List.length_take, Nat.min_eq_left (by omega), Nat.sub_self, List.replicate_succ, List.set_cons_zero, List.take_add_one, he.out]
          simp [ed_vals]
        rw [e9] at this
        exact this
      case measure => simp [intOf]; omega
    · obtain rfl : es.length = k := by omega
      have d0 := decide_eq_false (show ¬ (es.length : Int) < (es.length : Int) by omega)
      have R := Lib.hid (show OwnR 74 4 wr w.heap.size (some ⟨w.heap.size, 0, none⟩) es.length es.length (es.map Ed.vals) from by
        have := HO.out
        rw [List.take_length, Nat.sub_self] at this
        simpa using this)
      go_wp2_with fail
      go_ret
      exact ⟨_, _, rfl, R.out, HB.out⟩
end Go.Proofs.Ytcoladhppbknnaa
