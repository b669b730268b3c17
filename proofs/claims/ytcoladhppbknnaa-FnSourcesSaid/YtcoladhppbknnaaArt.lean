/- The laws' helpers on articles: copies, sizes, comparisons. -/
import Derived.Test.YtcoladhppbknnaaEd
import Derived.Test.YtcoladhppbknnaaCells
import Derived.Test.YtcoladhppbknnaaPhase
import Derived.Test.YtcoladhppbknnaaSkip
import Derived.Test.YtcoladhppbknnaaFrac
namespace Go.Proofs.Ytcoladhppbknnaa
set_option linter.unusedVariables false
set_option linter.unusedSimpArgs false
set_option maxRecDepth 100000
open Go.RowKit Go.Deep
def dAr : Ar := ⟨0, ByteArray.empty⟩
theorem OwnR.put2 {t : Nat} {w : World} {base g n c : Nat} {rs : List (List Value)} (h : OwnR t 2 w base (some ⟨g, 0, none⟩) n c rs) {j : Nat} (hj : j < n) (x0 x1 : Value) :
    OwnR t 2 ((w.setCell ⟨g, j * 2, none⟩ x0).setCell ⟨g, j * 2 + 1, none⟩ x1) base (some ⟨g, 0, none⟩) n c (rs.set j [x0, x1]) := by
  have hl : j < rs.length := by rw [h.2.1]; exact hj
  obtain ⟨r, hr⟩ : ∃ r, rs[j]? = some r := ⟨_, List.getElem?_eq_getElem hl⟩
  have r2 := h.2.2 r (List.mem_of_getElem? hr)
  have p0 := (h.put (i := 0) x0 hr (by omega)).1
  have p1 := (p0.put (i := 1) x1 (List.getElem?_set_self hl) (by omega)).1
  rw [List.set_set] at p1
  have e : (r.set 0 x0).set 1 x1 = [x0, x1] := by
    match r, r2 with
    | [a, b], _ => rfl
  rw [e] at p1
  exact p1
theorem ar_vals (e : Ar) : e.vals = [.int .i64 e.id, .string e.text] := rfl
theorem OwnR.ars {t : Nat} {w : World} {base : Nat} {A : Option Addr} {n c : Nat} {es : List Ar} (h : OwnR t 2 w base A n c (es.map Ar.vals)) (ok : ∀ e ∈ es, ArOk e) : Ars w A n c es := ⟨h.recs, ok⟩
theorem toArticle_any (e : Ar) (w : World) : Calls Try.prog 53 #[.agg #[.int .i64 e.id, .string e.text]] w fun x w' => x = .returned (.agg #[.int .i64 e.id, .string e.text]) ∧ Below w.heap.size w w' := by
  obtain ⟨id, tx⟩ := e
  simp only
  have b1 := bel_alloc w (.cells #[.int .i64 id, .string tx] 88)
  have b2 := bel_trans b1 (bel_alloc _ (.cells #[.int .i64 id, .string tx] 70))
  have b3 := bel_trans b2 (bel_alloc _ (.cells #[.int .i64 id, .string tx] 70))
  have C := Cs.new (w.alloc (.cells #[.int .i64 id, .string tx] 88)) [.int .i64 id, .string tx] 70
  have hs : (w.alloc (.cells #[.int .i64 id, .string tx] 88)).heap.size = w.heap.size + 1 := by simp
  rw [hs] at C
  replace C := Lib.hid (C.below (bel_alloc _ (.cells #[.int .i64 id, .string tx] 70)))
  have B := Lib.hid b3
  clear b1 b2 b3 hs
  go_enter Try.func53, Try.ntmps53
  go_wp2_with fail
  have x0 := C.out.cell 0 rfl
  have x1 := C.out.cell 1 rfl
  exact bodyPost_ret (v := .agg #[.int .i64 id, .string tx]) (by simp [results, Try.results53, go_sem, x0, x1]) rfl ⟨rfl, B.out⟩
theorem info_ar : (Try.prog.info? 70).map (fun i => (i.zero, i.size, i.bytes)) = some (some (.agg #[.int .i64 0, .string ByteArray.empty]), 2, 24) := by kernel_rfl
theorem madeAr (n : Nat) : madeCells #[.int .i64 0, .string ByteArray.empty] (n * 2) = (List.replicate n dAr.vals).flatten.toArray := by
  apply Array.toList_inj.1
  rw [List.toList_toArray]
  apply List.ext_getElem?
  intro i
  by_cases hi : i < n * 2
  · have hr : (List.replicate n dAr.vals)[i / 2]? = some dAr.vals := by rw [List.getElem?_replicate, if_pos (by omega)]
    have K := fun v (hv : dAr.vals[i % 2]? = some v) => flat_at (s := 2) (rs := List.replicate n dAr.vals) (fun r hr => by rw [List.eq_of_mem_replicate hr]; rfl) hr hv
    rw [show i / 2 * 2 + i % 2 = i by omega] at K
    have L : ∀ z : Array Value, (madeCells z (n * 2)).toList[i]? = some (z[i % z.size]!) := fun z => by simp [madeCells, List.getElem?_range hi]
    rw [L]
    have h4 : i % 2 = 0 ∨ i % 2 = 1 := by omega
    show some (_ : Value) = _
    rcases h4 with h | h <;> (rw [h] at K; symm; apply K; simp [h]; rfl)
  · rw [List.getElem?_eq_none (by simp [size_madeCells]; omega), List.getElem?_eq_none]
    rw [flat_len (s := 2) (fun r hr => by rw [List.eq_of_mem_replicate hr]; rfl), List.length_replicate]
    omega
theorem toArticleS_any (A : Option Addr) (n c : Nat) (es : List Ar) (w : World) (h : Ars w A n c es) (hn : n ≤ 1048576) :
    Calls Try.prog 15 #[.slice A n c] w fun e w' => ∃ A' c', e = .returned (.slice A' n c') ∧ OwnR 70 2 w' w.heap.size A' n c' (es.map Ar.vals) ∧ Below w.heap.size w w' := by
  obtain rfl : es.length = n := h.len
  have H := Lib.hid h
  have c64 := h.short
  clear h
  obtain ⟨i0, hi, hzz⟩ := Option.map_eq_some_iff.1 info_ar
  simp only [Prod.mk.injEq] at hzz
  obtain ⟨hz0, hz1, hz2⟩ := hzz
  have hmk : ∀ W, (Instr.makeSlice 37 (.int .i64 (es.length : Int)) (.int .i64 (es.length : Int))).run Try.prog W = .ok (.slice (some ⟨W.heap.size, 0, none⟩) es.length es.length) (W.alloc (.cells (List.replicate es.length dAr.vals).flatten.toArray 70)) := fun W => by
    have := run_make (P := Try.prog) W 37 70 i0 _ Try.underlying37 hi hz0 .i64 .i64 es.length es.length (by omega) (Int.le_refl _) (by rw [hz2]; omega) (by omega)
    rw [hz1] at this
    rw [← madeAr]
    exact this
  clear hi hz0 hz1 hz2
  go_enter Try.func15, Try.ntmps15
  go_wp2_with fail
  clear hmk
  go_loopw [4] (fun i wr => ∃ k : Nat, k ≤ es.length ∧ i = .int .i64 k ∧ OwnR 70 2 wr w.heap.size (some ⟨w.heap.size, 0, none⟩) es.length es.length ((es.take k).map Ar.vals ++ List.replicate (es.length - k) dAr.vals) ∧ Below w.heap.size w wr) (fun i _ => es.length - (intOf i).toNat)
  case atStart =>
    refine ⟨0, Nat.zero_le _, rfl, ?_, bel_alloc _ _⟩
    have := ownR_lits (t := 70) (s := 2) (rs := List.replicate es.length dAr.vals) w (by intro r hr; rw [List.eq_of_mem_replicate hr]; rfl) (by rw [List.length_replicate]; unfold maxLen; omega)
    rw [List.length_replicate] at this
    simpa using this
  case round =>
    obtain ⟨k, hk, rfl, hO, hbel⟩ := hrel
    have HO := Lib.hid hO
    have HB := Lib.hid hbel
    clear hO hbel
    by_cases hlt : k < es.length
    · have d0 := decide_eq_true (show (k : Int) < (es.length : Int) by omega)
      obtain ⟨b, off, e, rfl, hb, he, ok, y0, y1⟩ := (H.out.below HB.out).at hlt
      go_wp2_with fail
      refine (toArticle_any e _).mono ?_
      rintro x w1 ⟨rfl, b1⟩
      have HO1 := Lib.hid (HO.out.below b1)
      have HB1 := Lib.hid (bel_trans HB.out b1)
      clear b1 y0 y1
      have f0 := HO1.out.free (k * 2)
      have f1 := HO1.out.free (k * 2 + 1)
      have RD : Hid (((es.take k).map Ar.vals ++ List.replicate (es.length - k) dAr.vals)[k]? = some dAr.vals) := by
        show _ = _
        rw [List.getElem?_append_right (by simp; omega), List.getElem?_replicate]
        rw [if_pos (by simp; omega)]
      have v0 := HO1.out.cell (i := 0) RD.out rfl
      have v1 := HO1.out.cell (i := 1) RD.out rfl
      rw [Nat.add_zero] at v0
      have PUT := Lib.hid (HO1.out.put2 hlt (.int .i64 e.id) (.string e.text))
      go_wp2_with fail
      go_roundw
      case rel =>
        refine ⟨k + 1, by omega, by go_num, ?_, (HB1.out.setCell (Nat.le_refl _) _).setCell (Nat.le_refl _) _⟩
        have := PUT.out
        have e9 : ((es.take k).map Ar.vals ++ List.replicate (es.length - k) dAr.vals).set k [.int .i64 e.id, .string e.text] = (es.take (k + 1)).map Ar.vals ++ List.replicate (es.length - (k + 1)) dAr.vals := by
          obtain ⟨m, hm⟩ : ∃ m, es.length - k = m + 1 := ⟨es.length - k - 1, by omega⟩
          have hm2 : es.length - (k + 1) = m := by omega
          rw [hm, hm2, List.set_append_right _ _ (by simp; omega), List.length_map, List.length_take, Nat.min_eq_left (by omega), Nat.sub_self, List.replicate_succ, List.set_cons_zero, List.take_add_one, he.out]
          simp [ar_vals]
        rw [e9] at this
        exact this
      case measure => simp [intOf]; omega
    · obtain rfl : es.length = k := by omega
      have d0 := decide_eq_false (show ¬ (es.length : Int) < (es.length : Int) by omega)
      have R := Lib.hid (show OwnR 70 2 wr w.heap.size (some ⟨w.heap.size, 0, none⟩) es.length es.length (es.map Ar.vals) from by
        have := HO.out
        rw [List.take_length, Nat.sub_self] at this
        simpa using this)
      go_wp2_with fail
      go_ret
      exact ⟨_, _, rfl, R.out, HB.out⟩
theorem eqArticle_same (e : Ar) (w : World) : Calls Try.prog 60 #[.agg #[.int .i64 e.id, .string e.text], .agg #[.int .i64 e.id, .string e.text]] w fun x w' => x = .returned (.bool true) ∧ Below w.heap.size w w' := by
  obtain ⟨id, tx⟩ := e
  simp only
  have b1 := bel_alloc w (.cells #[.int .i64 id, .string tx] 70)
  have C1 := Cs.new w [.int .i64 id, .string tx] 70
  have C2 := Cs.new (w.alloc (.cells #[.int .i64 id, .string tx] 70)) [.int .i64 id, .string tx] 70
  have b0 := bel_alloc (w.alloc (.cells #[.int .i64 id, .string tx] 70)) (.cells #[.int .i64 id, .string tx] 70)
  replace C1 := C1.below b0
  have b2 := Lib.hid (bel_trans b1 b0)
  have hs : (w.alloc (.cells #[.int .i64 id, .string tx] 70)).heap.size = w.heap.size + 1 := by simp
  rw [hs] at C2
  have x0 := C1.cell 0 rfl
  have x1 := C1.cell 1 rfl
  have z0 := C2.cell 0 rfl
  have z1 := C2.cell 1 rfl
  have e2 : (id != id) = false := by simp
  have e4 : (tx.toList == tx.toList) = true := by simp
  clear C1 C2 b1 b0 hs
  go_enter Try.func60, Try.ntmps60
  go_wp2_with fail
  go_ret
  exact ⟨rfl, b2.out⟩
set_option maxHeartbeats 1000000 in
theorem eqArticleS_same (A : Option Addr) (n c : Nat) (B : Option Addr) (d : Nat) (es : List Ar) (w : World) (h : Ars w A n c es) (k : Ars w B n d es) :
    Calls Try.prog 18 #[.slice A n c, .slice B n d] w fun x w' => x = .returned (.bool true) ∧ Below w.heap.size w w' := by
  obtain rfl : es.length = n := h.len
  have c64 := h.short
  have H := Lib.hid h
  have K := Lib.hid k
  clear h k
  go_enter Try.func18, Try.ntmps18
  go_wp2_with fail
  go_loopw [5] (fun i wr => ∃ k : Nat, k ≤ es.length ∧ i = .int .i64 k ∧ Below w.heap.size w wr) (fun i _ => es.length - (intOf i).toNat)
  case atStart => exact ⟨0, Nat.zero_le _, rfl, Below.refl _ _⟩
  case round =>
    obtain ⟨k, hk, rfl, hbel⟩ := hrel
    have HB := Lib.hid hbel
    clear hbel
    by_cases hlt : k < es.length
    · have d0 := decide_eq_true (show (k : Int) < (es.length : Int) by omega)
      have k0 : (0 : Int) ≤ (k : Int) := by omega
      have k1 : (k : Int) < (es.length : Int) := by omega
      obtain ⟨b, off, e, rfl, hb, he, ok, y0, y1⟩ := (H.out.below HB.out).at hlt
      obtain ⟨b2, off2, e2, rfl, hb2, he2, ok2, z0, z1⟩ := (K.out.below HB.out).at hlt
      have ee : some e = some e2 := he.out.symm.trans he2.out
      injection ee with ee
      subst ee
      clear ok2 he2
      go_wp2_with fail
      refine wp_region_noPanic ?_
      refine wp_region_R (inFirst (fun W => Below wr.heap.size wr W ∧ W.cell? ⟨b, off + k * 2, none⟩ = some (.int .i64 e.id) ∧ W.cell? ⟨b, off + k * 2 + 1, none⟩ = some (.string e.text) ∧ W.cell? ⟨b2, off2 + k * 2, none⟩ = some (.int .i64 e.id) ∧ W.cell? ⟨b2, off2 + k * 2 + 1, none⟩ = some (.string e.text)) 10) (by kernel_rfl) ?_
      have SS := Lib.hid (fun (W : World) (hW : Below wr.heap.size wr W) => (show Below wr.heap.size wr W ∧ W.cell? ⟨b, off + k * 2, none⟩ = some (.int .i64 e.id) ∧ W.cell? ⟨b, off + k * 2 + 1, none⟩ = some (.string e.text) ∧ W.cell? ⟨b2, off2 + k * 2, none⟩ = some (.int .i64 e.id) ∧ W.cell? ⟨b2, off2 + k * 2 + 1, none⟩ = some (.string e.text) from ⟨hW, (hW.cell (p := ⟨b, off + k * 2, none⟩) hb).trans y0, (hW.cell (p := ⟨b, off + k * 2 + 1, none⟩) hb).trans y1, (hW.cell (p := ⟨b2, off2 + k * 2, none⟩) hb2).trans z0, (hW.cell (p := ⟨b2, off2 + k * 2 + 1, none⟩) hb2).trans z1⟩))
      have hS := SS.out wr.drew ⟨rfl, rfl, rfl, Nat.le_refl _, fun _ _ => rfl⟩
      refine anyR_take (i := 0) (.slice (some ⟨b, off, none⟩) es.length c) rfl (by kernel_rfl) (by kernel_rfl) (by kernel_rfl) (by kernel_rfl) (fun _ _ _ h => h) (by assumption) ⟨by rfl, ?_⟩ ?_
      · intro W hW
        go_simp
      try simp only [Act.put, List.setIfInBounds_toArray, List.set_cons_zero, List.set_cons_succ, List.getElem_toArray, List.getElem_cons_zero, List.getElem_cons_succ]
      refine anyR_take (i := 1) (.int .i64 k) rfl (by kernel_rfl) (by kernel_rfl) (by kernel_rfl) (by kernel_rfl) (fun _ _ _ h => h) (by assumption) ⟨by rfl, ?_⟩ ?_
      · intro W hW
        go_simp
      try simp only [Act.put, List.setIfInBounds_toArray, List.set_cons_zero, List.set_cons_succ, List.getElem_toArray, List.getElem_cons_zero, List.getElem_cons_succ]
      refine anyR_take (i := 2) (.pointer (some ⟨b, off + k * 2, none⟩)) rfl (by kernel_rfl) (by kernel_rfl) (by kernel_rfl) (by kernel_rfl) (fun _ _ _ h => h) (by assumption) ⟨by rfl, ?_⟩ ?_
      · intro W hW
        go_simp
      try simp only [Act.put, List.setIfInBounds_toArray, List.set_cons_zero, List.set_cons_succ, List.getElem_toArray, List.getElem_cons_zero, List.getElem_cons_succ]
      refine anyR_take (i := 3) (.agg #[.int .i64 e.id, .string e.text]) rfl (by kernel_rfl) (by kernel_rfl) (by kernel_rfl) (by kernel_rfl) (fun _ _ _ h => h) (by assumption) ⟨by rfl, ?_⟩ ?_
      · intro W hW
        go_simp
      try simp only [Act.put, List.setIfInBounds_toArray, List.set_cons_zero, List.set_cons_succ, List.getElem_toArray, List.getElem_cons_zero, List.getElem_cons_succ]
      refine anyR_take (i := 4) (.slice (some ⟨b2, off2, none⟩) es.length d) rfl (by kernel_rfl) (by kernel_rfl) (by kernel_rfl) (by kernel_rfl) (fun _ _ _ h => h) (by assumption) ⟨by rfl, ?_⟩ ?_
      · intro W hW
        go_simp
      try simp only [Act.put, List.setIfInBounds_toArray, List.set_cons_zero, List.set_cons_succ, List.getElem_toArray, List.getElem_cons_zero, List.getElem_cons_succ]
      refine anyR_take (i := 5) (.int .i64 k) rfl (by kernel_rfl) (by kernel_rfl) (by kernel_rfl) (by kernel_rfl) (fun _ _ _ h => h) (by assumption) ⟨by rfl, ?_⟩ ?_
      · intro W hW
        go_simp
      try simp only [Act.put, List.setIfInBounds_toArray, List.set_cons_zero, List.set_cons_succ, List.getElem_toArray, List.getElem_cons_zero, List.getElem_cons_succ]
      refine anyR_take (i := 6) (.pointer (some ⟨b2, off2 + k * 2, none⟩)) rfl (by kernel_rfl) (by kernel_rfl) (by kernel_rfl) (by kernel_rfl) (fun _ _ _ h => h) (by assumption) ⟨by rfl, ?_⟩ ?_
      · intro W hW
        go_simp
      try simp only [Act.put, List.setIfInBounds_toArray, List.set_cons_zero, List.set_cons_succ, List.getElem_toArray, List.getElem_cons_zero, List.getElem_cons_succ]
      refine anyR_take (i := 7) (.agg #[.int .i64 e.id, .string e.text]) rfl (by kernel_rfl) (by kernel_rfl) (by kernel_rfl) (by kernel_rfl) (fun _ _ _ h => h) (by assumption) ⟨by rfl, ?_⟩ ?_
      · intro W hW
        go_simp
      try simp only [Act.put, List.setIfInBounds_toArray, List.set_cons_zero, List.set_cons_succ, List.getElem_toArray, List.getElem_cons_zero, List.getElem_cons_succ]
      refine anyR_one (i := 8) (by kernel_rfl) rfl ?_
      intro K hK
      go_simp
      go_at_call 60
      refine (eqArticle_same e _).mono ?_
      rintro x w9 ⟨rfl, u9⟩
      have hT := SS.out _ (bel_trans hS.1 u9)
      refine hK.out _ _ (fun _ => hT) ?_
      clear hS u9
      have hS := hT
      clear hT
      clear hK K
      try simp only [Act.put, List.setIfInBounds_toArray, List.set_cons_zero, List.set_cons_succ, List.getElem_toArray, List.getElem_cons_zero, List.getElem_cons_succ]
      refine anyR_take (i := 9) (.bool false) rfl (by kernel_rfl) (by kernel_rfl) (by kernel_rfl) (by kernel_rfl) (fun _ _ _ h => h) (by assumption) ⟨by rfl, ?_⟩ ?_
      · intro W hW
        go_simp
      try simp only [Act.put, List.setIfInBounds_toArray, List.set_cons_zero, List.set_cons_succ, List.getElem_toArray, List.getElem_cons_zero, List.getElem_cons_succ]
      refine anyR_done (by kernel_rfl) ?_ _
      refine NoPanic.normal ?_
      have BU := Lib.hid hS.1
      clear hS SS
      go_wp2_with fail
      go_roundw
      case rel => exact ⟨k + 1, by omega, by go_num, bel_trans HB.out BU.out⟩
      case measure => simp [intOf]; omega
    · obtain rfl : es.length = k := by omega
      have d0 := decide_eq_false (show ¬ (es.length : Int) < (es.length : Int) by omega)
      go_wp2_with fail
      go_ret
      exact ⟨rfl, HB.out⟩
theorem szArticle_any (e : Ar) (left : Int) (h0 : 0 ≤ left) (h1 : left ≤ 1048576) (so : e.text.size ≤ 9223372036854775807) (w : World) : Calls Try.prog 49 #[.agg #[.int .i64 e.id, .string e.text], .int .i64 left] w fun x w' => ∃ r : Int, x = .returned (.int .i64 r) ∧ r ≤ left ∧ Below w.heap.size w w' := by
  obtain ⟨id, tx⟩ := e
  simp only at *
  have b1 := Lib.hid (bel_alloc w (.cells #[.int .i64 id, .string tx] 88))
  have C1 := Cs.new w [.int .i64 id, .string tx] 88
  have x1 := C1.cell 1 rfl
  clear C1
  have w1 : IntKind.i64.wrap (left - (tx.size : Int)) = left - tx.size := IntWalk.i64_in _ (by omega)
  by_cases q1 : left - (tx.size : Int) < 0
  · have d1 := decide_eq_true q1
    go_enter Try.func49, Try.ntmps49
    go_wp2_with fail
    go_ret
    exact ⟨-1, rfl, by omega, b1.out⟩
  have d1 := decide_eq_false q1
  go_enter Try.func49, Try.ntmps49
  go_wp2_with fail
  go_ret
  exact ⟨_, rfl, by omega, b1.out⟩
theorem szArticleS_any (A : Option Addr) (n c : Nat) (es : List Ar) (left : Int) (h0 : 0 ≤ left) (h1 : left ≤ 1048576) (w : World) (h : Ars w A n c es) :
    Calls Try.prog 13 #[.slice A n c, .int .i64 left] w fun x w' => ∃ r : Int, x = .returned (.int .i64 r) ∧ (r < 0 ∨ ((n : Int) ≤ left ∧ r ≤ left)) ∧ Below w.heap.size w w' := by
  obtain rfl : es.length = n := h.len
  have c64 := h.short
  have H := Lib.hid h
  clear h
  have w1 : IntKind.i64.wrap (left - (es.length : Int)) = left - es.length := IntWalk.i64_in _ (by omega)
  by_cases q1 : left - (es.length : Int) < 0
  · have d1 := decide_eq_true q1
    go_enter Try.func13, Try.ntmps13
    go_wp2_with fail
    go_ret
    exact ⟨-1, rfl, .inl (by omega), Below.refl _ _⟩
  have d1 := decide_eq_false q1
  go_enter Try.func13, Try.ntmps13
  go_wp2_with fail
  clear d1 w1
  go_loopw [1, 5] (fun l i wr => ∃ (k : Nat) (x : Int), k ≤ es.length ∧ i = .int .i64 k ∧ l = .int .i64 x ∧ 0 ≤ x ∧ x ≤ left - es.length ∧ Below w.heap.size w wr) (fun _ i _ => es.length - (intOf i).toNat)
  case atStart => exact ⟨0, left - es.length, Nat.zero_le _, rfl, rfl, by omega, by omega, Below.refl _ _⟩
  case round =>
    obtain ⟨k, x, hk, rfl, rfl, hx0, hx1, hbel⟩ := hrel
    have HB := Lib.hid hbel
    clear hbel
    by_cases hlt : k < es.length
    · have d0 := decide_eq_true (show (k : Int) < (es.length : Int) by omega)
      obtain ⟨b, off, e, rfl, hb, he, ok, y0, y1⟩ := (H.out.below HB.out).at hlt
      go_wp2_with fail
      refine (szArticle_any e x hx0 (by omega) ok.text _).mono ?_
      rintro v w9 ⟨r, rfl, hr, b9⟩
      have HB9 := Lib.hid (bel_trans HB.out b9)
      clear b9
      by_cases hneg : r < 0
      · have d1 := decide_eq_true hneg
        go_wp2_with fail
        go_ret
        exact ⟨-1, rfl, .inl (by omega), HB9.out⟩
      · have d1 := decide_eq_false hneg
        go_wp2_with fail
        go_roundw
        case rel => exact ⟨k + 1, r, by omega, by go_num, rfl, by omega, by omega, HB9.out⟩
        case measure => simp [intOf]; omega
    · obtain rfl : es.length = k := by omega
      have d0 := decide_eq_false (show ¬ (es.length : Int) < (es.length : Int) by omega)
      go_wp2_with fail
      go_ret
      exact ⟨x, rfl, .inr ⟨by omega, by omega⟩, HB.out⟩
end Go.Proofs.Ytcoladhppbknnaa
