/- Frames of arguments: the masks of attackers. -/
import Derived.Test.YteejfjgofpolkaaFrame
namespace Go.Proofs.Yteejfjgofpolkaa
set_option linter.unusedVariables false
set_option linter.unusedSimpArgs false
set_option maxRecDepth 100000
open Go.RowKit Go.Deep
def attM (es : List (Nat × Nat)) (a : Nat) : Nat := es.foldl (fun o p => if p.2 = a then o ||| 2 ^ p.1 else o) 0
def attL (n : Nat) (es : List (Nat × Nat)) : List Int := (List.range n).map fun a => (attM es a : Int)
theorem attM_snoc (es : List (Nat × Nat)) (p : Nat × Nat) (a : Nat) : attM (es ++ [p]) a = if p.2 = a then attM es a ||| 2 ^ p.1 else attM es a := by simp [attM]
theorem attM_lt {n : Nat} {es : List (Nat × Nat)} (h : ∀ p ∈ es, p.1 < n) (a : Nat) : attM es a < 2 ^ n := by
  unfold attM
  have : ∀ (l : List (Nat × Nat)) (o : Nat), (∀ p ∈ l, p.1 < n) → o < 2 ^ n → l.foldl (fun o p => if p.2 = a then o ||| 2 ^ p.1 else o) o < 2 ^ n := by
    intro l
    induction l with
    | nil => intro o _ ho; exact ho
    | cons p t ih =>
      intro o hl ho
      rw [List.foldl_cons]
      refine ih _ (fun q hq => hl q (List.mem_cons_of_mem _ hq)) ?_
      split
      · exact Nat.or_lt_two_pow ho (Nat.pow_lt_pow_right (by omega) (hl p (List.mem_cons_self ..)))
      · exact ho
  exact this es 0 h (Nat.two_pow_pos n)
theorem attM_bit (es : List (Nat × Nat)) (a b : Nat) : (attM es a).testBit b = true ↔ (b, a) ∈ es := by
  have : ∀ (l : List (Nat × Nat)) (o : Nat), (l.foldl (fun o p => if p.2 = a then o ||| 2 ^ p.1 else o) o).testBit b = true ↔ o.testBit b = true ∨ (b, a) ∈ l := by
    intro l
    induction l with
    | nil => intro o; simp
    | cons p t ih =>
      intro o
      rw [List.foldl_cons, ih]
      obtain ⟨x, y⟩ := p
      simp only [List.mem_cons, Prod.mk.injEq]
      split
      · rename_i h
        rw [or_pow_bit, Bool.or_eq_true, decide_eq_true_eq, or_assoc]
        constructor
        · rintro (h1 | h1 | h1)
          · exact .inl h1
          · exact .inr (.inl ⟨h1.symm, h.symm⟩)
          · exact .inr (.inr h1)
        · rintro (h1 | h1 | h1)
          · exact .inl h1
          · exact .inr (.inl h1.1.symm)
          · exact .inr (.inr h1)
      · rename_i h
        constructor
        · rintro (h1 | h1)
          · exact .inl h1
          · exact .inr (.inr h1)
        · rintro (h1 | h1 | h1)
          · exact .inl h1
          · exact absurd h1.2.symm h
          · exact .inr h1
  have h := this es 0
  simpa [attM] using h
theorem attL_len (n : Nat) (es : List (Nat × Nat)) : (attL n es).length = n := by simp [attL]
theorem attL_at {n a : Nat} (es : List (Nat × Nat)) (h : a < n) : (attL n es)[a]? = some (attM es a : Int) := by simp [attL, h]
theorem attL_snoc {n : Nat} (es : List (Nat × Nat)) (p : Nat × Nat) : attL n (es ++ [p]) = (attL n es).set p.2 ((attM es p.2 ||| 2 ^ p.1 : Nat) : Int) := by
  apply List.ext_getElem?
  intro a
  by_cases ha : a < n
  · rw [attL_at _ ha, attM_snoc]
    by_cases e : p.2 = a
    · subst e
      rw [List.getElem?_set_self (by rw [attL_len]; exact ha), if_pos rfl]
    · rw [List.getElem?_set_ne e, attL_at _ ha, if_neg e]
  · rw [List.getElem?_eq_none (by rw [attL_len]; omega), List.getElem?_eq_none (by rw [List.length_set, attL_len]; omega)]
theorem attL_nil (n : Nat) : attL n [] = List.replicate n 0 := by
  apply List.ext_getElem?
  intro a
  by_cases ha : a < n
  · rw [attL_at _ ha, List.getElem?_replicate, if_pos ha]; rfl
  · rw [List.getElem?_eq_none (by rw [attL_len]; omega), List.getElem?_eq_none (by simp; omega)]
theorem two_pow_lt {a : Nat} (h : a < 10) : 2 ^ a < 1024 := Nat.lt_of_lt_of_le (Nat.pow_lt_pow_right (by omega) h) (by decide)
theorem shl_wrap {a : Nat} (h : a < 10) : IntKind.i64.wrap ((2 : Int) ^ a) = ((2 ^ a : Nat) : Int) := by
  have := two_pow_lt h
  rw [show ((2 : Int) ^ a) = ((2 ^ a : Nat) : Int) by simp]
  exact wrap_nat (by omega)
set_option maxHeartbeats 2000000 in
theorem attackers_ok (n : Nat) (es : List (Nat × Nat)) (ok : FrOk n es) (A : Option Addr) (m c : Nat) (w : World) (h : Rws w A m c (es.map erow)) :
    Calls Try.prog 61 #[.agg #[.int .i64 n, .slice A m c]] w fun e w' => ∃ A' c', e = .returned (.slice A' n c') ∧ OwnN w' w.heap.size A' n c' (attL n es) ∧ Below w.heap.size w w' := by
  have b0 := bel_alloc w (.cells #[.int .i64 n, .slice A m c] 26)
  have C0 := Lib.hid (Cs.new w [.int .i64 n, .slice A m c] 26)
  have y0 := C0.out.cell 0 rfl
  have y1 := C0.out.cell 1 rfl
  have hm := h.short
  have n10 := ok.n10
  have OK := Lib.hid ok
  have hlen : (es.map erow).length = m := h.1
  rw [List.length_map] at hlen
  have HL := Lib.hid hlen
  clear ok hlen
  have hmk := fun W => run_make_row' (P := Try.prog) 76 3 (.int .i64 0) 8 Try.underlying76 info_num rfl .i64 .i64 n (by omega) (by omega) W
  have sz0 : (w.alloc (.cells #[.int .i64 n, .slice A m c] 26)).heap.size = w.heap.size + 1 := by simp
  have O1 : Hid (OwnN ((w.alloc (.cells #[.int .i64 n, .slice A m c] 26)).alloc (.cells (madeCells #[.int .i64 0] n) 3)) (w.heap.size + 1) (some ⟨w.heap.size + 1, 0, none⟩) n n (attL n (es.take 0))) := by
    show OwnN _ _ _ _ _ _
    have := World.ownsRow_lit (base := w.heap.size + 1) (e := 3) (size := 1) (w.alloc (.cells #[.int .i64 n, .slice A m c] 26)) (madeCells #[.int .i64 0] n) n (by omega) (by unfold maxLen; omega) (by simp [size_madeCells])
    rw [toList_madeCells_one, sz0] at this
    rw [List.take_zero, attL_nil]
    exact ⟨by simpa [vals] using this, fun z hz => by rw [List.eq_of_mem_replicate hz]; decide⟩
  have BW := Lib.hid (bel_trans b0 (bel_alloc (w.alloc (.cells #[.int .i64 n, .slice A m c] 26)) (.cells (madeCells #[.int .i64 0] n) 3)))
  have ya := (C0.out.below (bel_alloc (w.alloc (.cells #[.int .i64 n, .slice A m c] 26)) (.cells (madeCells #[.int .i64 0] n) 3))).cell 1 rfl
  have SZ := Lib.hid sz0
  clear sz0 b0
  go_enter Try.func61, Try.ntmps61
  go_wp2_with fail
  clear y0 y1 ya hmk
  go_loopw [12] (fun t wr => ∃ k : Nat, k ≤ m ∧ t = .int .i64 k ∧ OwnN wr (w.heap.size + 1) (some ⟨w.heap.size + 1, 0, none⟩) n n (attL n (es.take k)) ∧ Below w.heap.size w wr) (fun t _ => m - (intOf t).toNat)
  case atStart => exact ⟨0, Nat.zero_le _, rfl, O1.out, BW.out⟩
  case round =>
    obtain ⟨k, hk, rfl, hO, hB⟩ := hrel
    have HO := Lib.hid hO
    have HB := Lib.hid hB
    clear hO hB O1 BW
    by_cases hlt : k < m
    · obtain ⟨b, off, p, Ai, ci, rfl, hb, hp, hc, ip⟩ := erow_at (h.below HB.out) hlt
      have hpi := OK.out.inn p (List.mem_of_getElem? hp)
      obtain ⟨bA, oA, rfl, hbA, hcA⟩ := ip.2.2.2.2 (by omega)
      have a0 := hcA 0 (p.1 : Int) rfl
      have a1 := hcA 1 (p.2 : Int) rfl
      rw [Nat.add_zero] at a0
      have hmk := attM_lt (n := 10) (es := es.take k) (fun q hq => by have := (OK.out.inn q (List.mem_of_mem_take hq)).1; omega) p.2
      have hsh := shl_wrap (a := p.1) (by omega)
      have h2p := two_pow_lt (a := p.1) (by omega)
      have OC := HO.out.cell (attL_at (es.take k) hpi.2)
      have OF := HO.out.free p.2
      obtain ⟨M, hM⟩ : ∃ r, attM (es.take k) p.2 = r := ⟨_, rfl⟩
      rw [hM] at hmk OC
      have hor := i64_or M (2 ^ p.1) (by omega) (by omega)
      obtain ⟨R, hR⟩ : ∃ r, M ||| 2 ^ p.1 = r := ⟨_, rfl⟩
      have E := Lib.hid (show attL n (es.take (k + 1)) = (attL n (es.take k)).set p.2 ((M ||| 2 ^ p.1 : Nat) : Int) by rw [take_snoc' hp, attL_snoc, hM])
      have hN := Nat.or_lt_two_pow (x := M) (y := 2 ^ p.1) (n := 10) hmk h2p
      rw [hR] at hor E hN
      rw [show ((2 ^ p.1 : Nat) : Int) = (2 : Int) ^ p.1 by simp] at hor
      have ST := Lib.hid (HO.out.set p.2 (R : Int) (by omega) (by omega)).1
      have BS := Lib.hid (HB.out.setCell (p := ⟨w.heap.size + 1, p.2, none⟩) (by simp) (.int .i64 (R : Int)))
      have j0 : (0 : Int) ≤ (p.2 : Int) := by omega
      have j1 : (p.2 : Int) < (n : Int) := by omega
      have i0 : (0 : Int) ≤ (p.1 : Int) := by omega
      clear hcA ip hp hM
      go_wp2_with fail
      refine wp_region_noPanic ?_
      refine wp_region_R (inFirst (fun w' => w'.cell? ⟨bA, oA, none⟩ = some (.int .i64 (p.1 : Int)) ∧ w'.cell? ⟨bA, oA + 1, none⟩ = some (.int .i64 (p.2 : Int)) ∧ w'.cell? ⟨w.heap.size + 1, p.2, none⟩ = some (.int .i64 (M : Int))) 11) (by kernel_rfl) ?_
      have hS0 : (wr.drew.cell? ⟨bA, oA, none⟩ = some (.int .i64 (p.1 : Int)) ∧ wr.drew.cell? ⟨bA, oA + 1, none⟩ = some (.int .i64 (p.2 : Int)) ∧ wr.drew.cell? ⟨w.heap.size + 1, p.2, none⟩ = some (.int .i64 (M : Int))) := ⟨a0, a1, OC⟩
      refine anyR_take (i := 0) (.slice (some ⟨w.heap.size + 1, 0, none⟩) n n) rfl (by kernel_rfl) (by kernel_rfl) (by kernel_rfl) (by kernel_rfl) (fun _ _ _ h => h) (by assumption) ⟨by rfl, ?_⟩ ?_
      · intro W hW
        go_simp
      try simp only [Act.put, List.setIfInBounds_toArray, List.set_cons_zero, List.set_cons_succ, List.getElem_toArray, List.getElem_cons_zero, List.getElem_cons_succ]
      refine anyR_take (i := 1) (.slice (some ⟨bA, oA, none⟩) 2 ci) rfl (by kernel_rfl) (by kernel_rfl) (by kernel_rfl) (by kernel_rfl) (fun _ _ _ h => h) (by assumption) ⟨by rfl, ?_⟩ ?_
      · intro W hW
        go_simp
      try simp only [Act.put, List.setIfInBounds_toArray, List.set_cons_zero, List.set_cons_succ, List.getElem_toArray, List.getElem_cons_zero, List.getElem_cons_succ]
      refine anyR_take (i := 2) (.pointer (some ⟨bA, oA + 1, none⟩)) rfl (by kernel_rfl) (by kernel_rfl) (by kernel_rfl) (by kernel_rfl) (fun _ _ _ h => h) (by assumption) ⟨by rfl, ?_⟩ ?_
      · intro W hW
        go_simp
      try simp only [Act.put, List.setIfInBounds_toArray, List.set_cons_zero, List.set_cons_succ, List.getElem_toArray, List.getElem_cons_zero, List.getElem_cons_succ]
      refine anyR_take (i := 3) (.int .i64 p.2) rfl (by kernel_rfl) (by kernel_rfl) (by kernel_rfl) (by kernel_rfl) (fun _ _ _ h => h) (by assumption) ⟨by rfl, ?_⟩ ?_
      · intro W hW
        go_simp
      try simp only [Act.put, List.setIfInBounds_toArray, List.set_cons_zero, List.set_cons_succ, List.getElem_toArray, List.getElem_cons_zero, List.getElem_cons_succ]
      refine anyR_take (i := 4) (.pointer (some ⟨w.heap.size + 1, p.2, none⟩)) rfl (by kernel_rfl) (by kernel_rfl) (by kernel_rfl) (by kernel_rfl) (fun _ _ _ h => h) (by assumption) ⟨by rfl, ?_⟩ ?_
      · intro W hW
        go_simp
      try simp only [Act.put, List.setIfInBounds_toArray, List.set_cons_zero, List.set_cons_succ, List.getElem_toArray, List.getElem_cons_zero, List.getElem_cons_succ]
      refine anyR_take (i := 5) (.int .i64 M) rfl (by kernel_rfl) (by kernel_rfl) (by kernel_rfl) (by kernel_rfl) (fun _ _ _ h => h) (by assumption) ⟨by rfl, ?_⟩ ?_
      · intro W hW
        go_simp
      try simp only [Act.put, List.setIfInBounds_toArray, List.set_cons_zero, List.set_cons_succ, List.getElem_toArray, List.getElem_cons_zero, List.getElem_cons_succ]
      refine anyR_take (i := 6) (.slice (some ⟨bA, oA, none⟩) 2 ci) rfl (by kernel_rfl) (by kernel_rfl) (by kernel_rfl) (by kernel_rfl) (fun _ _ _ h => h) (by assumption) ⟨by rfl, ?_⟩ ?_
      · intro W hW
        go_simp
      try simp only [Act.put, List.setIfInBounds_toArray, List.set_cons_zero, List.set_cons_succ, List.getElem_toArray, List.getElem_cons_zero, List.getElem_cons_succ]
      refine anyR_take (i := 7) (.pointer (some ⟨bA, oA, none⟩)) rfl (by kernel_rfl) (by kernel_rfl) (by kernel_rfl) (by kernel_rfl) (fun _ _ _ h => h) (by assumption) ⟨by rfl, ?_⟩ ?_
      · intro W hW
        go_simp
      try simp only [Act.put, List.setIfInBounds_toArray, List.set_cons_zero, List.set_cons_succ, List.getElem_toArray, List.getElem_cons_zero, List.getElem_cons_succ]
      refine anyR_take (i := 8) (.int .i64 p.1) rfl (by kernel_rfl) (by kernel_rfl) (by kernel_rfl) (by kernel_rfl) (fun _ _ _ h => h) (by assumption) ⟨by rfl, ?_⟩ ?_
      · intro W hW
        go_simp
      try simp only [Act.put, List.setIfInBounds_toArray, List.set_cons_zero, List.set_cons_succ, List.getElem_toArray, List.getElem_cons_zero, List.getElem_cons_succ]
      refine anyR_take (i := 9) (.int .i64 ((2 ^ p.1 : Nat) : Int)) rfl (by kernel_rfl) (by kernel_rfl) (by kernel_rfl) (by kernel_rfl) (fun _ _ _ h => h) (by assumption) ⟨by rfl, ?_⟩ ?_
      · intro W hW
        go_simp
      try simp only [Act.put, List.setIfInBounds_toArray, List.set_cons_zero, List.set_cons_succ, List.getElem_toArray, List.getElem_cons_zero, List.getElem_cons_succ]
      refine anyR_take (i := 10) (.int .i64 (R : Int)) rfl (by kernel_rfl) (by kernel_rfl) (by kernel_rfl) (by kernel_rfl) (fun _ _ _ h => h) (by assumption) ⟨by rfl, ?_⟩ ?_
      · intro W hW
        go_simp
      try simp only [Act.put, List.setIfInBounds_toArray, List.set_cons_zero, List.set_cons_succ, List.getElem_toArray, List.getElem_cons_zero, List.getElem_cons_succ]
      refine anyR_one (i := 11) (by kernel_rfl) rfl ?_
      intro K hK
      go_simp
      refine hK.out _ _ (fun h => absurd h (by decide)) ?_
      clear hK K
      try simp only [Act.put, List.setIfInBounds_toArray, List.set_cons_zero, List.set_cons_succ, List.getElem_toArray, List.getElem_cons_zero, List.getElem_cons_succ]
      refine anyR_one (i := 12) (by kernel_rfl) rfl ?_
      intro K hK
      go_simp
      refine hK.out _ _ (fun h => absurd h (by decide)) ?_
      clear hK K
      try simp only [Act.put, List.setIfInBounds_toArray, List.set_cons_zero, List.set_cons_succ, List.getElem_toArray, List.getElem_cons_zero, List.getElem_cons_succ]
      refine anyR_done (by kernel_rfl) ?_ _
      refine NoPanic.normal ?_
      clear hS0
      go_wp2_with fail
      go_roundw
      case rel => exact ⟨k + 1, by omega, by go_num, by rw [E.out]; exact ST.out, ⟨BS.out.os, BS.out.tape, BS.out.output, BS.out.size, BS.out.block⟩⟩
      case measure => simp [intOf]; omega
    · obtain rfl : k = m := by omega
      have OF : Hid (OwnN wr (w.heap.size + 1) (some ⟨w.heap.size + 1, 0, none⟩) n n (attL n es)) := by
        have := HO.out
        rwa [List.take_of_length_le (by rw [HL.out]; exact Nat.le_refl _)] at this
      go_wp2_with fail
      go_ret
      exact ⟨_, _, rfl, OF.out.mono (by omega), HB.out⟩
end Go.Proofs.Yteejfjgofpolkaa
