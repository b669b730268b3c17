/- The text of a frame. -/
import Derived.Test.YteehbnanjgmliaaDoorDec
import Derived.Test.YteehbnanjgmliaaDoorFrS
namespace Go.Proofs.YteehbnanjgmliaaDoor
set_option linter.unusedVariables false
set_option linter.unusedSimpArgs false
set_option maxRecDepth 100000
open Go.RowKit
/-- The text of a frame. -/
def frStep (o : ByteArray) (l : List Int) : ByteArray := o ++ ((((⟨#[32]⟩ : ByteArray) ++ decT (l.getD 0 0).toNat) ++ (⟨#[62]⟩ : ByteArray)) ++ decT (l.getD 1 0).toNat)
def frT (cnt : Int) (rows : List (List Int)) : ByteArray := rows.foldl frStep (decT cnt.toNat)
theorem frT_snoc (cnt : Int) (rows : List (List Int)) (p : Nat × Nat) : frT cnt (rows ++ [erow p]) = frT cnt rows ++ ((((⟨#[32]⟩ : ByteArray) ++ decT p.1) ++ (⟨#[62]⟩ : ByteArray)) ++ decT p.2) := by
  unfold frT
  rw [List.foldl_append]
  simp [frStep, erow]
theorem decT_size (k : Nat) : (decT k).size ≤ 2 := by unfold decT; split <;> decide
theorem nxt_size {s d1 d2 : ByteArray} {k : Nat} (hs : s.size ≤ 2 + 6 * k) (h1 : d1.size ≤ 2) (h2 : d2.size ≤ 2) : (s ++ ((((⟨#[32]⟩ : ByteArray) ++ d1) ++ (⟨#[62]⟩ : ByteArray)) ++ d2)).size ≤ 2 + 6 * (k + 1) := by
  simp only [ByteArray.size_append]
  have e1 : (⟨#[32]⟩ : ByteArray).size = 1 := rfl
  have e2 : (⟨#[62]⟩ : ByteArray).size = 1 := rfl
  omega
def frText (cnt : Int) (rows : List (List Int)) : ByteArray := if frB cnt rows then frT cnt rows else ⟨#[]⟩
set_option maxHeartbeats 2000000 in
theorem frameText_any (cnt : Int) (rows : List (List Int)) (A : Option Addr) (m c : Nat) (w : World) (h : Rws w A m c rows) (h20 : m ≤ 1048576) :
    Calls Tryd.prog 14 #[.agg #[.int .i64 cnt, .slice A m c]] w fun e w' => e = .returned (.tuple #[.string (frText cnt rows), .bool (frB cnt rows)]) ∧ Below w.heap.size w w' := by
  have b0 := bel_alloc w (.cells #[.int .i64 cnt, .slice A m c] 24)
  have C0 := Cs.new w [.int .i64 cnt, .slice A m c] 24
  have y0 := C0.cell 0 rfl
  have y1 := C0.cell 1 rfl
  have V := Lib.hid (validFrame_any cnt rows A m c _ (h.below b0))
  have HC := Lib.hid C0
  have B0 := Lib.hid b0
  have H := Lib.hid h
  have hm := h.short
  clear C0 b0 h
  cases hf : frB cnt rows
  · have HF := Lib.hid hf
    have R := Lib.hid (show frText cnt rows = ⟨#[]⟩ by unfold frText; rw [hf]; rfl)
    clear hf
    go_enter Tryd.func14, Tryd.ntmps14
    go_wp2_with fail
    refine V.out.mono ?_
    rintro e w1 ⟨rfl, b1⟩
    rw [HF.out]
    have B1 := Lib.hid (bel_trans B0.out b1)
    clear b1
    go_wp2_with fail
    exact bodyPost_ret (v := .tuple #[.string ⟨#[]⟩, .bool false]) (by simp [results, Tryd.results14, go_sem]) rfl ⟨by rw [R.out], B1.out⟩
  · obtain ⟨n, es, rfl, rfl, ok⟩ := frB_yes hf
    have HF := Lib.hid hf
    have R := Lib.hid (show frText (n : Int) (es.map erow) = frT n (es.map erow) by unfold frText; rw [hf]; rfl)
    have OK := Lib.hid ok
    have n10 := ok.n10
    have hlen : (es.map erow).length = m := H.out.1
    have HL := Lib.hid hlen
    clear hf ok hlen
    go_enter Tryd.func14, Tryd.ntmps14
    go_wp2_with fail
    refine V.out.mono ?_
    rintro e w1 ⟨rfl, b1⟩
    rw [HF.out]
    have B1 := Lib.hid (bel_trans B0.out b1)
    have C1 := HC.out.below b1
    have z0 := C1.cell 0 rfl
    have z1 := C1.cell 1 rfl
    clear b1 C1 y0 y1 V
    go_wp2_with fail
    refine (decimal_any n n10 _).mono ?_
    rintro e w2 ⟨rfl, rfl⟩
    go_wp2_with fail
    clear z0 z1
    go_loopw [4, 16] (fun t i wr => ∃ (k : Nat) (s : ByteArray), k ≤ m ∧ i = .int .i64 k ∧ t = .string s ∧ Hid (s = frT n ((es.map erow).take k)) ∧ s.size ≤ 2 + 6 * k ∧ Below w.heap.size w wr) (fun _ i _ => m - (intOf i).toNat)
    case atStart => exact ⟨0, _, Nat.zero_le _, rfl, rfl, rfl, decT_size n, B1.out⟩
    case round =>
      obtain ⟨k, s, hk, rfl, rfl, hs, hsz, hbel⟩ := hrel
      have HB := Lib.hid hbel
      clear hbel
      by_cases hlt : k < m
      · obtain ⟨b, off, p, Ai, ci, rfl, hb, hp, hc, ip⟩ := erow_at (H.out.below HB.out) hlt
        have hpi := OK.out.inn p (List.mem_of_getElem? hp)
        obtain ⟨bA, oA, rfl, hbA, hcA⟩ := ip.2.2.2.2 (by omega)
        have a0 := hcA 0 (p.1 : Int) rfl
        have a1 := hcA 1 (p.2 : Int) rfl
        rw [Nat.add_zero] at a0
        have E := Lib.hid (show frT n ((es.map erow).take (k + 1)) = s ++ ((((⟨#[32]⟩ : ByteArray) ++ decT p.1) ++ (⟨#[62]⟩ : ByteArray)) ++ decT p.2) by
          rw [take_snoc' (show (es.map erow)[k]? = some (erow p) by rw [List.getElem?_map, hp]; rfl), frT_snoc, hs.out])
        have D1 := Lib.hid (decimal_any p.1 (by omega))
        have D2 := Lib.hid (decimal_any p.2 (by omega))
        have hd1 := decT_size p.1
        have hd2 := decT_size p.2
        obtain ⟨d1, he1⟩ : ∃ d, decT p.1 = d := ⟨_, rfl⟩
        obtain ⟨d2, he2⟩ : ∃ d, decT p.2 = d := ⟨_, rfl⟩
        rw [he1] at D1 hd1 E
        rw [he2] at D2 hd2 E
        have NS := Lib.hid (nxt_size hsz hd1 hd2)
        have z1 : (⟨#[32]⟩ : ByteArray).size = 1 := rfl
        have z2 : (⟨#[62]⟩ : ByteArray).size = 1 := rfl
        clear he1 he2
        clear hcA ip hp hpi
        go_wp2_with fail
        go_quiet ((first | (go_at_call 22; exact quiet_left (D1.out _)) | (go_at_call 22; exact quiet_left (D2.out _))))
        go_wp2_with fail
        go_roundw
        case rel => exact ⟨k + 1, _, by omega, by go_num, rfl, E.out.symm, NS.out, below_drewN HB.out _⟩
        case measure => simp [intOf]; omega
      · obtain rfl : k = m := by omega
        have E := Lib.hid (show s = frText n (es.map erow) by
          rw [R.out, hs.out, List.take_of_length_le (by rw [HL.out]; exact Nat.le_refl _)])
        go_wp2_with fail
        exact bodyPost_ret (v := .tuple #[.string s, .bool true]) (by simp [results, Tryd.results14, go_sem]) rfl ⟨by rw [E.out], HB.out⟩
set_option maxHeartbeats 4000000 in
theorem l08Text_ok (n : Nat) (es : List (Nat × Nat)) (ok : FrOk n es) (g : Nat) (A : Option Addr) (m c : Nat) (w : World) (C0 : Cs w g [.int .i64 n, .slice A m c]) (h : Rws w A m c (es.map erow)) (h20 : m ≤ 1048576) :
    Calls Tryd.prog 10 #[.pointer (some ⟨g, 0, none⟩)] w fun e w' => e = .returned (.string (frT n (es.map erow))) ∧ Below w.heap.size w w' := by
  have y0 := C0.cell 0 rfl
  have HC := Lib.hid C0
  have H := Lib.hid h
  have OK := Lib.hid ok
  have n10 := ok.n10
  have hm := h.short
  have HL := Lib.hid h.1
  clear ok h C0
  go_enter Tryd.func10, Tryd.ntmps10
  go_wp2_with fail
  refine (l01Dec_any n n10 _).mono ?_
  rintro e w2 ⟨rfl, b2⟩
  have B2 := Lib.hid b2
  clear b2 y0
  go_wp2_with fail
  go_loopw [3, 4] (fun t i wr => ∃ (k : Nat) (s : ByteArray), k ≤ m ∧ i = .int .i64 k ∧ t = .string s ∧ Hid (s = frT n ((es.map erow).take k)) ∧ s.size ≤ 2 + 6 * k ∧ Below w.heap.size w wr) (fun _ i _ => m - (intOf i).toNat)
  case atStart => exact ⟨0, _, Nat.zero_le _, rfl, rfl, rfl, decT_size n, B2.out⟩
  case round =>
    obtain ⟨k, s, hk, rfl, rfl, hs, hsz, hbel⟩ := hrel
    have HB := Lib.hid hbel
    have CR := Lib.hid (HC.out.below hbel)
    have y1 := CR.out.cell 1 rfl
    clear hbel
    by_cases hlt : k < m
    · obtain ⟨b, off, p, Ai, ci, rfl, hb, hp, hc, ip⟩ := erow_at (H.out.below HB.out) hlt
      have hpi := OK.out.inn p (List.mem_of_getElem? hp)
      obtain ⟨bA, oA, rfl, hbA, hcA⟩ := ip.2.2.2.2 (by omega)
      have a0 := hcA 0 (p.1 : Int) rfl
      have a1 := hcA 1 (p.2 : Int) rfl
      rw [Nat.add_zero] at a0
      have hdi : decide ((k : Int) < (m : Int)) = true := by simp; omega
      have E := Lib.hid (show frT n ((es.map erow).take (k + 1)) = s ++ ((((⟨#[32]⟩ : ByteArray) ++ decT p.1) ++ (⟨#[62]⟩ : ByteArray)) ++ decT p.2) by
        rw [take_snoc' (show (es.map erow)[k]? = some (erow p) by rw [List.getElem?_map, hp]; rfl), frT_snoc, hs.out])
      have D1 := Lib.hid (l01Dec_any p.1 (by omega))
      have D2 := Lib.hid (l01Dec_any p.2 (by omega))
      have hd1 := decT_size p.1
      have hd2 := decT_size p.2
      obtain ⟨d1, he1⟩ : ∃ d, decT p.1 = d := ⟨_, rfl⟩
      obtain ⟨d2, he2⟩ : ∃ d, decT p.2 = d := ⟨_, rfl⟩
      rw [he1] at D1 hd1 E
      rw [he2] at D2 hd2 E
      have NS := Lib.hid (nxt_size hsz hd1 hd2)
      have z1 : (⟨#[32]⟩ : ByteArray).size = 1 := rfl
      have z2 : (⟨#[62]⟩ : ByteArray).size = 1 := rfl
      clear he1 he2
      have gr := CR.out.1
      have SS := Lib.hid (fun (W : World) (hW : Below wr.heap.size wr W) => (show Below wr.heap.size wr W ∧ W.cell? ⟨g, 1, none⟩ = some (.slice (some ⟨b, off, none⟩) m c) ∧ W.cell? ⟨b, off + k, none⟩ = some (.slice (some ⟨bA, oA, none⟩) 2 ci) ∧ W.cell? ⟨bA, oA, none⟩ = some (.int .i64 p.1) ∧ W.cell? ⟨bA, oA + 1, none⟩ = some (.int .i64 p.2) from
        ⟨hW, (hW.cell (p := ⟨g, 1, none⟩) gr).trans y1, (hW.cell (p := ⟨b, off + k, none⟩) hb).trans hc, (hW.cell (p := ⟨bA, oA, none⟩) hbA).trans a0, (hW.cell (p := ⟨bA, oA + 1, none⟩) hbA).trans a1⟩))
      have j0 : (0 : Int) ≤ (k : Int) := by omega
      have q1 : ¬ 9223372036854775807 < 1 + d1.size := by omega
      have q2 : ¬ 9223372036854775807 < 1 + d1.size + 1 := by omega
      have q3 : ¬ 9223372036854775807 < 1 + d1.size + 1 + d2.size := by omega
      have q4 : ¬ 9223372036854775807 < s.size + (1 + d1.size + 1 + d2.size) := by omega
      have j1 : (k : Int) < (m : Int) := by omega
      clear hcA ip hp hpi
      go_wp2_with fail
      refine wp_region_noPanic ?_
      refine wp_region_R (inFirst (fun W => Below wr.heap.size wr W ∧ W.cell? ⟨g, 1, none⟩ = some (.slice (some ⟨b, off, none⟩) m c) ∧ W.cell? ⟨b, off + k, none⟩ = some (.slice (some ⟨bA, oA, none⟩) 2 ci) ∧ W.cell? ⟨bA, oA, none⟩ = some (.int .i64 p.1) ∧ W.cell? ⟨bA, oA + 1, none⟩ = some (.int .i64 p.2)) 26) (by kernel_rfl) ?_
      have hS0 := SS.out wr.drew ⟨rfl, rfl, rfl, Nat.le_refl _, fun _ _ => rfl⟩
      refine anyR_take (i := 0) (.string s) rfl (by kernel_rfl) (by kernel_rfl) (by kernel_rfl) (by kernel_rfl) (fun _ _ _ h => h) (by assumption) ⟨by rfl, ?_⟩ ?_
      · intro W hW
        go_simp
      try simp only [Act.put, List.setIfInBounds_toArray, List.set_cons_zero, List.set_cons_succ, List.getElem_toArray, List.getElem_cons_zero, List.getElem_cons_succ]
      refine anyR_take (i := 1) (.pointer (some ⟨g, 0, none⟩)) rfl (by kernel_rfl) (by kernel_rfl) (by kernel_rfl) (by kernel_rfl) (fun _ _ _ h => h) (by assumption) ⟨by rfl, ?_⟩ ?_
      · intro W hW
        go_simp
      try simp only [Act.put, List.setIfInBounds_toArray, List.set_cons_zero, List.set_cons_succ, List.getElem_toArray, List.getElem_cons_zero, List.getElem_cons_succ]
      refine anyR_take (i := 2) (.pointer (some ⟨g, 0, none⟩)) rfl (by kernel_rfl) (by kernel_rfl) (by kernel_rfl) (by kernel_rfl) (fun _ _ _ h => h) (by assumption) ⟨by rfl, ?_⟩ ?_
      · intro W hW
        go_simp
      try simp only [Act.put, List.setIfInBounds_toArray, List.set_cons_zero, List.set_cons_succ, List.getElem_toArray, List.getElem_cons_zero, List.getElem_cons_succ]
      refine anyR_take (i := 3) (.pointer (some ⟨g, 1, none⟩)) rfl (by kernel_rfl) (by kernel_rfl) (by kernel_rfl) (by kernel_rfl) (fun _ _ _ h => h) (by assumption) ⟨by rfl, ?_⟩ ?_
      · intro W hW
        go_simp
      try simp only [Act.put, List.setIfInBounds_toArray, List.set_cons_zero, List.set_cons_succ, List.getElem_toArray, List.getElem_cons_zero, List.getElem_cons_succ]
      refine anyR_take (i := 4) (.slice (some ⟨b, off, none⟩) m c) rfl (by kernel_rfl) (by kernel_rfl) (by kernel_rfl) (by kernel_rfl) (fun _ _ _ h => h) (by assumption) ⟨by rfl, ?_⟩ ?_
      · intro W hW
        go_simp
      try simp only [Act.put, List.setIfInBounds_toArray, List.set_cons_zero, List.set_cons_succ, List.getElem_toArray, List.getElem_cons_zero, List.getElem_cons_succ]
      refine anyR_take (i := 5) (.int .i64 k) rfl (by kernel_rfl) (by kernel_rfl) (by kernel_rfl) (by kernel_rfl) (fun _ _ _ h => h) (by assumption) ⟨by rfl, ?_⟩ ?_
      · intro W hW
        go_simp
      try simp only [Act.put, List.setIfInBounds_toArray, List.set_cons_zero, List.set_cons_succ, List.getElem_toArray, List.getElem_cons_zero, List.getElem_cons_succ]
      refine anyR_take (i := 6) (.pointer (some ⟨b, off + k, none⟩)) rfl (by kernel_rfl) (by kernel_rfl) (by kernel_rfl) (by kernel_rfl) (fun _ _ _ h => h) (by assumption) ⟨by rfl, ?_⟩ ?_
      · intro W hW
        go_simp
      try simp only [Act.put, List.setIfInBounds_toArray, List.set_cons_zero, List.set_cons_succ, List.getElem_toArray, List.getElem_cons_zero, List.getElem_cons_succ]
      refine anyR_take (i := 7) (.slice (some ⟨bA, oA, none⟩) 2 ci) rfl (by kernel_rfl) (by kernel_rfl) (by kernel_rfl) (by kernel_rfl) (fun _ _ _ h => h) (by assumption) ⟨by rfl, ?_⟩ ?_
      · intro W hW
        go_simp
      try simp only [Act.put, List.setIfInBounds_toArray, List.set_cons_zero, List.set_cons_succ, List.getElem_toArray, List.getElem_cons_zero, List.getElem_cons_succ]
      refine anyR_take (i := 8) (.pointer (some ⟨bA, oA, none⟩)) rfl (by kernel_rfl) (by kernel_rfl) (by kernel_rfl) (by kernel_rfl) (fun _ _ _ h => h) (by assumption) ⟨by rfl, ?_⟩ ?_
      · intro W hW
        go_simp
      try simp only [Act.put, List.setIfInBounds_toArray, List.set_cons_zero, List.set_cons_succ, List.getElem_toArray, List.getElem_cons_zero, List.getElem_cons_succ]
      refine anyR_take (i := 9) (.int .i64 p.1) rfl (by kernel_rfl) (by kernel_rfl) (by kernel_rfl) (by kernel_rfl) (fun _ _ _ h => h) (by assumption) ⟨by rfl, ?_⟩ ?_
      · intro W hW
        go_simp
      try simp only [Act.put, List.setIfInBounds_toArray, List.set_cons_zero, List.set_cons_succ, List.getElem_toArray, List.getElem_cons_zero, List.getElem_cons_succ]
      refine anyR_take (i := 13) (.pointer (some ⟨g, 0, none⟩)) rfl (by kernel_rfl) (by kernel_rfl) (by kernel_rfl) (by kernel_rfl) (fun _ _ _ h => h) (by assumption) ⟨by rfl, ?_⟩ ?_
      · intro W hW
        go_simp
      try simp only [Act.put, List.setIfInBounds_toArray, List.set_cons_zero, List.set_cons_succ, List.getElem_toArray, List.getElem_cons_zero, List.getElem_cons_succ]
      refine anyR_take (i := 14) (.pointer (some ⟨g, 0, none⟩)) rfl (by kernel_rfl) (by kernel_rfl) (by kernel_rfl) (by kernel_rfl) (fun _ _ _ h => h) (by assumption) ⟨by rfl, ?_⟩ ?_
      · intro W hW
        go_simp
      try simp only [Act.put, List.setIfInBounds_toArray, List.set_cons_zero, List.set_cons_succ, List.getElem_toArray, List.getElem_cons_zero, List.getElem_cons_succ]
      refine anyR_take (i := 15) (.pointer (some ⟨g, 1, none⟩)) rfl (by kernel_rfl) (by kernel_rfl) (by kernel_rfl) (by kernel_rfl) (fun _ _ _ h => h) (by assumption) ⟨by rfl, ?_⟩ ?_
      · intro W hW
        go_simp
      try simp only [Act.put, List.setIfInBounds_toArray, List.set_cons_zero, List.set_cons_succ, List.getElem_toArray, List.getElem_cons_zero, List.getElem_cons_succ]
      refine anyR_take (i := 16) (.slice (some ⟨b, off, none⟩) m c) rfl (by kernel_rfl) (by kernel_rfl) (by kernel_rfl) (by kernel_rfl) (fun _ _ _ h => h) (by assumption) ⟨by rfl, ?_⟩ ?_
      · intro W hW
        go_simp
      try simp only [Act.put, List.setIfInBounds_toArray, List.set_cons_zero, List.set_cons_succ, List.getElem_toArray, List.getElem_cons_zero, List.getElem_cons_succ]
      refine anyR_take (i := 17) (.int .i64 k) rfl (by kernel_rfl) (by kernel_rfl) (by kernel_rfl) (by kernel_rfl) (fun _ _ _ h => h) (by assumption) ⟨by rfl, ?_⟩ ?_
      · intro W hW
        go_simp
      try simp only [Act.put, List.setIfInBounds_toArray, List.set_cons_zero, List.set_cons_succ, List.getElem_toArray, List.getElem_cons_zero, List.getElem_cons_succ]
      refine anyR_take (i := 18) (.pointer (some ⟨b, off + k, none⟩)) rfl (by kernel_rfl) (by kernel_rfl) (by kernel_rfl) (by kernel_rfl) (fun _ _ _ h => h) (by assumption) ⟨by rfl, ?_⟩ ?_
      · intro W hW
        go_simp
      try simp only [Act.put, List.setIfInBounds_toArray, List.set_cons_zero, List.set_cons_succ, List.getElem_toArray, List.getElem_cons_zero, List.getElem_cons_succ]
      refine anyR_take (i := 19) (.slice (some ⟨bA, oA, none⟩) 2 ci) rfl (by kernel_rfl) (by kernel_rfl) (by kernel_rfl) (by kernel_rfl) (fun _ _ _ h => h) (by assumption) ⟨by rfl, ?_⟩ ?_
      · intro W hW
        go_simp
      try simp only [Act.put, List.setIfInBounds_toArray, List.set_cons_zero, List.set_cons_succ, List.getElem_toArray, List.getElem_cons_zero, List.getElem_cons_succ]
      refine anyR_take (i := 20) (.pointer (some ⟨bA, oA + 1, none⟩)) rfl (by kernel_rfl) (by kernel_rfl) (by kernel_rfl) (by kernel_rfl) (fun _ _ _ h => h) (by assumption) ⟨by rfl, ?_⟩ ?_
      · intro W hW
        go_simp
      try simp only [Act.put, List.setIfInBounds_toArray, List.set_cons_zero, List.set_cons_succ, List.getElem_toArray, List.getElem_cons_zero, List.getElem_cons_succ]
      refine anyR_take (i := 21) (.int .i64 p.2) rfl (by kernel_rfl) (by kernel_rfl) (by kernel_rfl) (by kernel_rfl) (fun _ _ _ h => h) (by assumption) ⟨by rfl, ?_⟩ ?_
      · intro W hW
        go_simp
      try simp only [Act.put, List.setIfInBounds_toArray, List.set_cons_zero, List.set_cons_succ, List.getElem_toArray, List.getElem_cons_zero, List.getElem_cons_succ]
      refine anyR_one (i := 10) (by kernel_rfl) rfl ?_
      intro K hK
      go_simp
      go_at_call 19
      refine (D1.out _).mono ?_
      rintro e w4 ⟨rfl, b4⟩
      have c4 := SS.out w4 (bel_trans (Below.refl _ wr) ⟨b4.os, b4.tape, b4.output, b4.size, b4.block⟩)
      refine hK.out _ _ (fun _ => c4) ?_
      clear hK K
      try simp only [Act.put, List.setIfInBounds_toArray, List.set_cons_zero, List.set_cons_succ, List.getElem_toArray, List.getElem_cons_zero, List.getElem_cons_succ]
      refine anyR_take (i := 11) (.string ((⟨#[32]⟩ : ByteArray) ++ d1)) rfl (by kernel_rfl) (by kernel_rfl) (by kernel_rfl) (by kernel_rfl) (fun _ _ _ h => h) (by assumption) ⟨by rfl, ?_⟩ ?_
      · intro W hW
        go_simp
      try simp only [Act.put, List.setIfInBounds_toArray, List.set_cons_zero, List.set_cons_succ, List.getElem_toArray, List.getElem_cons_zero, List.getElem_cons_succ]
      refine anyR_take (i := 12) (.string (((⟨#[32]⟩ : ByteArray) ++ d1) ++ (⟨#[62]⟩ : ByteArray))) rfl (by kernel_rfl) (by kernel_rfl) (by kernel_rfl) (by kernel_rfl) (fun _ _ _ h => h) (by assumption) ⟨by rfl, ?_⟩ ?_
      · intro W hW
        go_simp
      try simp only [Act.put, List.setIfInBounds_toArray, List.set_cons_zero, List.set_cons_succ, List.getElem_toArray, List.getElem_cons_zero, List.getElem_cons_succ]
      refine anyR_one (i := 22) (by kernel_rfl) rfl ?_
      intro K hK
      go_simp
      go_at_call 19
      refine (D2.out _).mono ?_
      rintro e w5 ⟨rfl, b5⟩
      have c5 := SS.out w5 (bel_trans c4.1 b5)
      refine hK.out _ _ (fun _ => c5) ?_
      clear hK K
      try simp only [Act.put, List.setIfInBounds_toArray, List.set_cons_zero, List.set_cons_succ, List.getElem_toArray, List.getElem_cons_zero, List.getElem_cons_succ]
      refine anyR_one (i := 23) (by kernel_rfl) rfl ?_
      intro K hK
      go_simp
      refine hK.out _ _ (fun _ => c5) ?_
      clear hK K
      try simp only [Act.put, List.setIfInBounds_toArray, List.set_cons_zero, List.set_cons_succ, List.getElem_toArray, List.getElem_cons_zero, List.getElem_cons_succ]
      refine anyR_one (i := 24) (by kernel_rfl) rfl ?_
      intro K hK
      go_simp
      refine hK.out _ _ (fun _ => c5) ?_
      clear hK K
      try simp only [Act.put, List.setIfInBounds_toArray, List.set_cons_zero, List.set_cons_succ, List.getElem_toArray, List.getElem_cons_zero, List.getElem_cons_succ]
      refine anyR_one (i := 25) (by kernel_rfl) rfl ?_
      intro K hK
      go_simp
      refine hK.out _ _ (fun _ => c5) ?_
      clear hK K
      try simp only [Act.put, List.setIfInBounds_toArray, List.set_cons_zero, List.set_cons_succ, List.getElem_toArray, List.getElem_cons_zero, List.getElem_cons_succ]
      refine anyR_done (by kernel_rfl) ?_ _
      refine NoPanic.normal ?_
      have B5 := Lib.hid (bel_trans HB.out c5.1)
      clear hS0 c4 c5
      go_wp2_with fail
      go_roundw
      case rel => exact ⟨k + 1, _, by omega, by go_num, rfl, E.out.symm, NS.out, B5.out⟩
      case measure => simp [intOf]; omega
    · have hkm := Lib.hid (show k = m by omega)
      have hdi : decide ((k : Int) < (m : Int)) = false := by simp; omega
      have E := Lib.hid (show s = frT n (es.map erow) by
        rw [hs.out, List.take_of_length_le (by rw [HL.out, hkm.out]; exact Nat.le_refl _)])
      go_wp2_with fail
      go_ret
      exact ⟨by rw [E.out]; rfl, HB.out⟩
end Go.Proofs.YteehbnanjgmliaaDoor
