/- The reference's graph of a frame: its making, and what its sets attack and defend. -/
import Derived.Test.YteejfjgofpolkaaDung
import Derived.Test.YteejfjgofpolkaaFrS
import Derived.Test.YteejfjgofpolkaaDefd
namespace Go.Proofs.Yteejfjgofpolkaa
set_option linter.unusedVariables false
set_option linter.unusedSimpArgs false
set_option maxRecDepth 100000
open Go.RowKit Go.Deep
def flip (es : List (Nat × Nat)) : List (Nat × Nat) := es.map Prod.swap
theorem flip_mem {es : List (Nat × Nat)} {a b : Nat} : (a, b) ∈ flip es ↔ (b, a) ∈ es := by
  unfold flip
  rw [List.mem_map]
  constructor
  · rintro ⟨⟨x, y⟩, h, e⟩
    obtain ⟨rfl, rfl⟩ := Prod.mk.inj e
    exact h
  · intro h
    exact ⟨(b, a), h, rfl⟩
/-- What each argument attacks. -/
def outL (n : Nat) (es : List (Nat × Nat)) : List Int := attL n (flip es)
theorem outL_snoc {n : Nat} (es : List (Nat × Nat)) (p : Nat × Nat) : outL n (es ++ [p]) = (outL n es).set p.1 ((attM (flip es) p.1 ||| 2 ^ p.2 : Nat) : Int) := by
  unfold outL flip
  rw [List.map_append]
  exact attL_snoc (n := n) (es.map Prod.swap) (p.2, p.1)
theorem outM_lt {n : Nat} {es : List (Nat × Nat)} (h : ∀ p ∈ es, p.2 < n) (a : Nat) : attM (flip es) a < 2 ^ n := attM_lt (fun q hq => by
  obtain ⟨x, y⟩ := q
  exact h _ (flip_mem.1 hq)) a
def Gr (w : World) (g n : Nat) (es : List (Nat × Nat)) : Prop := ∃ A d B e, Cs w g [.int .i64 n, .slice A n d, .slice B n e] ∧ Ints .i64 w A n d (outL n es) ∧ Ints .i64 w B n e (attL n es)
theorem Gr.below {w w' : World} {g n : Nat} {es : List (Nat × Nat)} (h : Gr w g n es) (hb : Below w.heap.size w w') : Gr w' g n es := by
  obtain ⟨A, d, B, e, h1, h2, h3⟩ := h
  exact ⟨A, d, B, e, h1.below hb, h2.below hb, h3.below hb⟩
theorem l08In_any (m a : Nat) (hm : m < 1024) (ha : a ≤ 10) (w : World) :
    Calls Try.prog 67 #[.int .i64 m, .int .i64 a] w fun e w' => e = .returned (.bool (m.testBit a)) ∧ w = w' := by
  have j0 : (0 : Int) ≤ (a : Int) := by omega
  have mn0 : min a 64 = a := by omega
  cases hb : m.testBit a
  · have hs := shr_zero (m := m) (i := a) (by omega) hb
    clear hb
    go_enter Try.func67, Try.ntmps67
    go_wp2_with fail
    go_ret
    exact ⟨rfl, rfl⟩
  · have hs := shr_one (m := m) (i := a) (by omega) hb
    clear hb
    go_enter Try.func67, Try.ntmps67
    go_wp2_with fail
    go_ret
    exact ⟨rfl, rfl⟩
theorem l08In_v {m a : Nat} {v : Bool} (hv : m.testBit a = v) (hm : m < 1024) (ha : a ≤ 10) (w : World) :
    Calls Try.prog 67 #[.int .i64 m, .int .i64 a] w fun e w' => e = .returned (.bool v) ∧ w = w' := by subst hv; exact l08In_any m a hm ha w
theorem zeros_own (W : World) (n : Nat) (hn : n ≤ 10) : OwnI (W.alloc (.cells (madeCells #[.int .i64 0] n) 2)) W.heap.size (some ⟨W.heap.size, 0, none⟩) n n (List.replicate n 0) := by
  have := World.ownsRow_lit (base := W.heap.size) (e := 2) (size := 1) W (madeCells #[.int .i64 0] n) n (Nat.le_refl _) (by unfold maxLen; omega) (by simp [size_madeCells])
  rw [toList_madeCells_one] at this
  exact ⟨by simpa [vals] using this, fun z hz => by rw [List.eq_of_mem_replicate hz]; decide⟩
/-- The loop's step on both rows. -/
theorem two_rows {w wr : World} {gA gB gC n : Nat} {es : List (Nat × Nat)} {k : Nat} {p : Nat × Nat} {M R M2 R2 : Nat} (hne : gA ≠ gB) (hA : gA ≠ gC) (hB : gB ≠ gC)
    (OA : OwnI wr w.heap.size (some ⟨gA, 0, none⟩) n n (outL n (es.take k))) (OB : OwnI wr w.heap.size (some ⟨gB, 0, none⟩) n n (attL n (es.take k))) (C : Cs wr gC [.int .i64 n, .slice (some ⟨gA, 0, none⟩) n n, .slice (some ⟨gB, 0, none⟩) n n]) (hb : Below w.heap.size w wr)
    (hp : es[k]? = some p) (hR : attM (flip (es.take k)) p.1 ||| 2 ^ p.2 = R) (hR2 : attM (es.take k) p.2 ||| 2 ^ p.1 = R2) (hl : R < 1024) (hl2 : R2 < 1024) :
    (OwnI (wr.setCell ⟨gA, p.1, none⟩ (.int .i64 R)) w.heap.size (some ⟨gB, 0, none⟩) n n (attL n (es.take k)) ∧ Cs (wr.setCell ⟨gA, p.1, none⟩ (.int .i64 R)) gC [.int .i64 n, .slice (some ⟨gA, 0, none⟩) n n, .slice (some ⟨gB, 0, none⟩) n n]) ∧
    OwnI ((wr.setCell ⟨gA, p.1, none⟩ (.int .i64 R)).setCell ⟨gB, p.2, none⟩ (.int .i64 R2)) w.heap.size (some ⟨gA, 0, none⟩) n n (outL n (es.take (k + 1))) ∧ OwnI ((wr.setCell ⟨gA, p.1, none⟩ (.int .i64 R)).setCell ⟨gB, p.2, none⟩ (.int .i64 R2)) w.heap.size (some ⟨gB, 0, none⟩) n n (attL n (es.take (k + 1))) ∧
    Cs ((wr.setCell ⟨gA, p.1, none⟩ (.int .i64 R)).setCell ⟨gB, p.2, none⟩ (.int .i64 R2)) gC [.int .i64 n, .slice (some ⟨gA, 0, none⟩) n n, .slice (some ⟨gB, 0, none⟩) n n] ∧ Below w.heap.size w ((wr.setCell ⟨gA, p.1, none⟩ (.int .i64 R)).setCell ⟨gB, p.2, none⟩ (.int .i64 R2)) := by
  have bA := (OA.block gA rfl).1
  have bB := (OB.block gB rfl).1
  have s1 := OA.set p.1 (R : Int) (by omega) (by omega)
  have o1 := OB.kept s1.2 (.inr (by intro e; injection e with e; exact hne e.symm))
  have c1 := C.kept s1.2 (by intro e; injection e with e; exact hA e.symm)
  have s2 := o1.set p.2 (R2 : Int) (by omega) (by omega)
  have o2 := s1.1.kept s2.2 (.inr (by intro e; injection e with e; exact hne e))
  have c2 := c1.kept s2.2 (by intro e; injection e with e; exact hB e.symm)
  refine ⟨⟨o1, c1⟩, ?_, ?_, c2, (hb.setCell (p := ⟨gA, p.1, none⟩) bA _).setCell (p := ⟨gB, p.2, none⟩) bB _⟩
  · rw [take_snoc' hp, outL_snoc, hR]; exact o2
  · rw [take_snoc' hp, attL_snoc, hR2]; exact s2.1
set_option maxHeartbeats 4000000 in
theorem l08Of_ok (n : Nat) (es : List (Nat × Nat)) (ok : FrOk n es) (g : Nat) (A : Option Addr) (m c : Nat) (w : World) (C0 : Cs w g [.int .i64 n, .slice A m c]) (h : Rws w A m c (es.map erow)) :
    Calls Try.prog 65 #[.pointer (some ⟨g, 0, none⟩)] w fun e w' => ∃ gC, e = .returned (.pointer (some ⟨gC, 0, none⟩)) ∧ Gr w' gC n es ∧ Below w.heap.size w w' := by
  have y0 := C0.cell 0 rfl
  have HC := Lib.hid C0
  have H := Lib.hid h
  have OK := Lib.hid ok
  have n10 := ok.n10
  have hm := h.short
  have hlen : (es.map erow).length = m := h.1
  rw [List.length_map] at hlen
  have HL := Lib.hid hlen
  have hmk := fun W => run_make_row' (P := Try.prog) 28 2 (.int .i64 0) 8 Try.underlying28 info_int rfl .i64 .i64 n (by omega) (by omega) W
  have gl := C0.1
  clear ok h C0 hlen
  have b1 := bel_alloc w (.cells (madeCells #[.int .i64 0] n) 2)
  have b2 := bel_trans b1 (bel_alloc (w.alloc (.cells (madeCells #[.int .i64 0] n) 2)) (.cells (madeCells #[.int .i64 0] n) 2))
  have sz1 : (w.alloc (.cells (madeCells #[.int .i64 0] n) 2)).heap.size = w.heap.size + 1 := by simp
  have sz2 : ((w.alloc (.cells (madeCells #[.int .i64 0] n) 2)).alloc (.cells (madeCells #[.int .i64 0] n) 2)).heap.size = w.heap.size + 2 := by simp
  have O1 := (zeros_own w n n10).below (bel_alloc _ (.cells (madeCells #[.int .i64 0] n) 2))
  have O2 := zeros_own (w.alloc (.cells (madeCells #[.int .i64 0] n) 2)) n n10
  rw [sz1] at O2
  obtain ⟨wb, hwb⟩ : ∃ x, (w.alloc (.cells (madeCells #[.int .i64 0] n) 2)).alloc (.cells (madeCells #[.int .i64 0] n) 2) = x := ⟨_, rfl⟩
  rw [hwb] at O1 O2 b2 sz2
  have HW := Lib.hid hwb
  have OZ1 := Lib.hid O1
  have OZ2 := Lib.hid (O2.mono (b2 := w.heap.size) (by omega))
  have BZ := Lib.hid b2
  have F1 := Lib.hid ((HC.out.below b1).cell 0 rfl)
  have F2 := Lib.hid ((HC.out.below b2).cell 0 rfl)
  have F3 := Lib.hid (fun o => (HC.out.below (bel_trans b2 (bel_alloc wb o))).cell 0 rfl)
  clear O1 O2 b1 b2 hwb
  have e0 : outL n (es.take 0) = List.replicate n 0 := by rw [List.take_zero]; exact attL_nil n
  have e1 : attL n (es.take 0) = List.replicate n 0 := by rw [List.take_zero]; exact attL_nil n
  have E0 := Lib.hid e0
  have E1 := Lib.hid e1
  clear e0 e1
  go_enter Try.func65, Try.ntmps65
  go_wp2_with fail
  refine wp_region_noPanic ?_
  refine wp_region_R (inFirst (fun w' => w'.cell? ⟨g, 0, none⟩ = some (.int .i64 n)) 17) (by kernel_rfl) ?_
  have hS0 : w.drew.cell? ⟨g, 0, none⟩ = some (.int .i64 n) := y0
  refine anyR_take (i := 0) (.pointer (some ⟨g, 0, none⟩)) rfl (by kernel_rfl) (by kernel_rfl) (by kernel_rfl) (by kernel_rfl) (fun _ _ _ h => h) (by assumption) ⟨by rfl, ?_⟩ ?_
  · intro W hW
    go_simp
  try simp only [Act.put, List.setIfInBounds_toArray, List.set_cons_zero, List.set_cons_succ, List.getElem_toArray, List.getElem_cons_zero, List.getElem_cons_succ]
  refine anyR_take (i := 1) (.pointer (some ⟨g, 0, none⟩)) rfl (by kernel_rfl) (by kernel_rfl) (by kernel_rfl) (by kernel_rfl) (fun _ _ _ h => h) (by assumption) ⟨by rfl, ?_⟩ ?_
  · intro W hW
    go_simp
  try simp only [Act.put, List.setIfInBounds_toArray, List.set_cons_zero, List.set_cons_succ, List.getElem_toArray, List.getElem_cons_zero, List.getElem_cons_succ]
  refine anyR_take (i := 2) (.pointer (some ⟨g, 0, none⟩)) rfl (by kernel_rfl) (by kernel_rfl) (by kernel_rfl) (by kernel_rfl) (fun _ _ _ h => h) (by assumption) ⟨by rfl, ?_⟩ ?_
  · intro W hW
    go_simp
  try simp only [Act.put, List.setIfInBounds_toArray, List.set_cons_zero, List.set_cons_succ, List.getElem_toArray, List.getElem_cons_zero, List.getElem_cons_succ]
  refine anyR_take (i := 3) (.int .i64 n) rfl (by kernel_rfl) (by kernel_rfl) (by kernel_rfl) (by kernel_rfl) (fun _ _ _ h => h) (by assumption) ⟨by rfl, ?_⟩ ?_
  · intro W hW
    go_simp
  try simp only [Act.put, List.setIfInBounds_toArray, List.set_cons_zero, List.set_cons_succ, List.getElem_toArray, List.getElem_cons_zero, List.getElem_cons_succ]
  refine anyR_take (i := 4) (.pointer (some ⟨g, 0, none⟩)) rfl (by kernel_rfl) (by kernel_rfl) (by kernel_rfl) (by kernel_rfl) (fun _ _ _ h => h) (by assumption) ⟨by rfl, ?_⟩ ?_
  · intro W hW
    go_simp
  try simp only [Act.put, List.setIfInBounds_toArray, List.set_cons_zero, List.set_cons_succ, List.getElem_toArray, List.getElem_cons_zero, List.getElem_cons_succ]
  refine anyR_take (i := 5) (.pointer (some ⟨g, 0, none⟩)) rfl (by kernel_rfl) (by kernel_rfl) (by kernel_rfl) (by kernel_rfl) (fun _ _ _ h => h) (by assumption) ⟨by rfl, ?_⟩ ?_
  · intro W hW
    go_simp
  try simp only [Act.put, List.setIfInBounds_toArray, List.set_cons_zero, List.set_cons_succ, List.getElem_toArray, List.getElem_cons_zero, List.getElem_cons_succ]
  refine anyR_take (i := 6) (.pointer (some ⟨g, 0, none⟩)) rfl (by kernel_rfl) (by kernel_rfl) (by kernel_rfl) (by kernel_rfl) (fun _ _ _ h => h) (by assumption) ⟨by rfl, ?_⟩ ?_
  · intro W hW
    go_simp
  try simp only [Act.put, List.setIfInBounds_toArray, List.set_cons_zero, List.set_cons_succ, List.getElem_toArray, List.getElem_cons_zero, List.getElem_cons_succ]
  refine anyR_take (i := 7) (.int .i64 n) rfl (by kernel_rfl) (by kernel_rfl) (by kernel_rfl) (by kernel_rfl) (fun _ _ _ h => h) (by assumption) ⟨by rfl, ?_⟩ ?_
  · intro W hW
    go_simp
  try simp only [Act.put, List.setIfInBounds_toArray, List.set_cons_zero, List.set_cons_succ, List.getElem_toArray, List.getElem_cons_zero, List.getElem_cons_succ]
  refine anyR_take (i := 9) (.pointer (some ⟨g, 0, none⟩)) rfl (by kernel_rfl) (by kernel_rfl) (by kernel_rfl) (by kernel_rfl) (fun _ _ _ h => h) (by assumption) ⟨by rfl, ?_⟩ ?_
  · intro W hW
    go_simp
  try simp only [Act.put, List.setIfInBounds_toArray, List.set_cons_zero, List.set_cons_succ, List.getElem_toArray, List.getElem_cons_zero, List.getElem_cons_succ]
  refine anyR_take (i := 10) (.pointer (some ⟨g, 0, none⟩)) rfl (by kernel_rfl) (by kernel_rfl) (by kernel_rfl) (by kernel_rfl) (fun _ _ _ h => h) (by assumption) ⟨by rfl, ?_⟩ ?_
  · intro W hW
    go_simp
  try simp only [Act.put, List.setIfInBounds_toArray, List.set_cons_zero, List.set_cons_succ, List.getElem_toArray, List.getElem_cons_zero, List.getElem_cons_succ]
  refine anyR_take (i := 11) (.pointer (some ⟨g, 0, none⟩)) rfl (by kernel_rfl) (by kernel_rfl) (by kernel_rfl) (by kernel_rfl) (fun _ _ _ h => h) (by assumption) ⟨by rfl, ?_⟩ ?_
  · intro W hW
    go_simp
  try simp only [Act.put, List.setIfInBounds_toArray, List.set_cons_zero, List.set_cons_succ, List.getElem_toArray, List.getElem_cons_zero, List.getElem_cons_succ]
  refine anyR_take (i := 12) (.int .i64 n) rfl (by kernel_rfl) (by kernel_rfl) (by kernel_rfl) (by kernel_rfl) (fun _ _ _ h => h) (by assumption) ⟨by rfl, ?_⟩ ?_
  · intro W hW
    go_simp
  try simp only [Act.put, List.setIfInBounds_toArray, List.set_cons_zero, List.set_cons_succ, List.getElem_toArray, List.getElem_cons_zero, List.getElem_cons_succ]
  refine anyR_two (i := 8) (j := 13) (by kernel_rfl) rfl rfl ?_ ?_
  · intro K hK
    go_simp
    refine hK.out _ _ (fun _ => F1.out) ?_
    clear hK K
    try simp only [Act.put, List.setIfInBounds_toArray, List.set_cons_zero, List.set_cons_succ, List.getElem_toArray, List.getElem_cons_zero, List.getElem_cons_succ]
    refine anyR_one (i := 13) (by kernel_rfl) rfl ?_
    intro K hK
    go_simp
    rw [HW.out]
    refine hK.out _ _ (fun _ => F2.out) ?_
    clear hK K
    try simp only [Act.put, List.setIfInBounds_toArray, List.set_cons_zero, List.set_cons_succ, List.getElem_toArray, List.getElem_cons_zero, List.getElem_cons_succ]
    refine anyR_one (i := 14) (by kernel_rfl) rfl ?_
    intro K hK
    go_simp
    refine hK.out _ _ (fun _ => F2.out) ?_
    clear hK K
    try simp only [Act.put, List.setIfInBounds_toArray, List.set_cons_zero, List.set_cons_succ, List.getElem_toArray, List.getElem_cons_zero, List.getElem_cons_succ]
    refine anyR_one (i := 15) (by kernel_rfl) rfl ?_
    intro K hK
    go_simp
    refine hK.out _ _ (fun _ => F3.out _) ?_
    clear hK K
    try simp only [Act.put, List.setIfInBounds_toArray, List.set_cons_zero, List.set_cons_succ, List.getElem_toArray, List.getElem_cons_zero, List.getElem_cons_succ]
    refine anyR_one (i := 16) (by kernel_rfl) rfl ?_
    intro K hK
    go_simp
    refine hK.out _ _ (fun _ => F3.out _) ?_
    clear hK K
    try simp only [Act.put, List.setIfInBounds_toArray, List.set_cons_zero, List.set_cons_succ, List.getElem_toArray, List.getElem_cons_zero, List.getElem_cons_succ]
    refine anyR_done (by kernel_rfl) ?_ _
    refine NoPanic.normal ?_
    have CZ := Lib.hid (Cs.new wb [.int .i64 n, .slice (some ⟨w.heap.size, 0, none⟩) n n, .slice (some ⟨w.heap.size + 1, 0, none⟩) n n] 87)
    have OZA := Lib.hid (OZ1.out.below (bel_alloc wb (.cells #[.int .i64 n, .slice (some ⟨w.heap.size, 0, none⟩) n n, .slice (some ⟨w.heap.size + 1, 0, none⟩) n n] 87)))
    have OZB := Lib.hid (OZ2.out.below (bel_alloc wb (.cells #[.int .i64 n, .slice (some ⟨w.heap.size, 0, none⟩) n n, .slice (some ⟨w.heap.size + 1, 0, none⟩) n n] 87)))
    rw [← E0.out] at OZA
    rw [← E1.out] at OZB
    have BZ := Lib.hid (bel_trans BZ.out (bel_alloc wb (.cells #[.int .i64 n, .slice (some ⟨w.heap.size, 0, none⟩) n n, .slice (some ⟨w.heap.size + 1, 0, none⟩) n n] 87)))
    rw [sz2] at CZ
    clear hS0 y0 hmk sz1
    have hne : (w.heap.size) ≠ (w.heap.size + 1) := by omega
    have hAC : (w.heap.size) ≠ (w.heap.size + 2) := by omega
    have hBC : (w.heap.size + 1) ≠ (w.heap.size + 2) := by omega
    go_wp2_with fail
    go_loopw [4] (fun t wr => ∃ k : Nat, k ≤ m ∧ t = .int .i64 k ∧ OwnI wr w.heap.size (some ⟨(w.heap.size), 0, none⟩) n n (outL n (es.take k)) ∧ OwnI wr w.heap.size (some ⟨(w.heap.size + 1), 0, none⟩) n n (attL n (es.take k)) ∧ Cs wr (w.heap.size + 2) [.int .i64 n, .slice (some ⟨(w.heap.size), 0, none⟩) n n, .slice (some ⟨(w.heap.size + 1), 0, none⟩) n n] ∧ Below w.heap.size w wr) (fun t _ => m - (intOf t).toNat)
    case atStart => exact ⟨0, Nat.zero_le _, rfl, OZA.out, OZB.out, CZ.out, ⟨BZ.out.os, BZ.out.tape, BZ.out.output, BZ.out.size, BZ.out.block⟩⟩
    case round =>
      obtain ⟨k, hk, rfl, oA, oB, cR, bR⟩ := hrel
      have OA := Lib.hid oA
      have OB := Lib.hid oB
      have CR := Lib.hid cR
      have BR := Lib.hid bR
      clear oA oB cR bR OZA OZB CZ BZ
      have f1 := (HC.out.below BR.out).cell 1 rfl
      by_cases hlt : k < m
      · obtain ⟨b, off, p, Ai, ci, rfl, hb, hp, hc, ip⟩ := erow_at (H.out.below BR.out) hlt
        have hpi := OK.out.inn p (List.mem_of_getElem? hp)
        obtain ⟨bA, oA, rfl, hbA, hcA⟩ := ip.2.2.2.2 (by omega)
        have a0 := hcA 0 (p.1 : Int) rfl
        have a1 := hcA 1 (p.2 : Int) rfl
        rw [Nat.add_zero] at a0
        have lA := outM_lt (n := 10) (es := es.take k) (fun q hq => by have := (OK.out.take k q hq).2; omega) p.1
        have lB := attM_lt (n := 10) (es := es.take k) (fun q hq => by have := (OK.out.take k q hq).1; omega) p.2
        have cA := OA.out.cell (attL_at (flip (es.take k)) hpi.1)
        have cB := OB.out.cell (attL_at (es.take k) hpi.2)
        have sl1 := shl_wrap (a := p.1) (by omega)
        have sl2 := shl_wrap (a := p.2) (by omega)
        have tp1 := two_pow_lt (a := p.1) (by omega)
        have tp2 := two_pow_lt (a := p.2) (by omega)
        have k0 := CR.out.cell 0 rfl
        have k1 := CR.out.cell 1 rfl
        have fA := OA.out.free p.1
        have TR := Lib.hid (fun R R2 h1 h2 h3 h4 => two_rows (R := R) (R2 := R2) (M := 0) (M2 := 0) hne hAC hBC OA.out OB.out CR.out BR.out hp h1 h2 h3 h4)
        obtain ⟨M, hM⟩ : ∃ r, attM (flip (es.take k)) p.1 = r := ⟨_, rfl⟩
        obtain ⟨M2, hM2⟩ : ∃ r, attM (es.take k) p.2 = r := ⟨_, rfl⟩
        rw [hM] at lA cA TR
        rw [hM2] at lB cB TR
        have or1 := i64_or M (2 ^ p.2) (by omega) (by omega)
        have or2 := i64_or M2 (2 ^ p.1) (by omega) (by omega)
        rw [show ((2 ^ p.2 : Nat) : Int) = (2 : Int) ^ p.2 by simp] at or1
        rw [show ((2 ^ p.1 : Nat) : Int) = (2 : Int) ^ p.1 by simp] at or2
        have N1 := Nat.or_lt_two_pow (x := M) (y := 2 ^ p.2) (n := 10) lA tp2
        have N2 := Nat.or_lt_two_pow (x := M2) (y := 2 ^ p.1) (n := 10) lB tp1
        obtain ⟨R, hR⟩ : ∃ r, M ||| 2 ^ p.2 = r := ⟨_, rfl⟩
        obtain ⟨R2, hR2⟩ : ∃ r, M2 ||| 2 ^ p.1 = r := ⟨_, rfl⟩
        rw [hR] at or1 N1
        rw [hR2] at or2 N2
        obtain ⟨⟨t1, t2⟩, t3, t4, t5, t6⟩ := TR.out R R2 hR hR2 N1 N2
        have k2 := t2.cell 2 rfl
        have cB2 := t1.cell (attL_at (es.take k) hpi.2)
        rw [hM2] at cB2
        have fB := t1.free p.2
        have T3 := Lib.hid t3
        have T4 := Lib.hid t4
        have T5 := Lib.hid t5
        have T6 := Lib.hid t6
        have j0 : (0 : Int) ≤ (p.1 : Int) := by omega
        have j1 : (0 : Int) ≤ (p.2 : Int) := by omega
        have j2 : (p.1 : Int) < (n : Int) := by omega
        have j3 : (p.2 : Int) < (n : Int) := by omega
        have mn0 : min p.1 64 = p.1 := by omega
        have mn1 : min p.2 64 = p.2 := by omega
        clear hcA ip hp hpi hM hM2 hR hR2 TR t1 t2 t3 t4 t5 t6 cB N1 N2 lA lB
        go_wp2_with fail
        go_roundw
        case rel => exact ⟨k + 1, by omega, by go_num, T3.out, T4.out, T5.out, T6.out⟩
        case measure => simp [intOf]; omega
      · obtain rfl : k = m := by omega
        have G : Hid (Gr wr (w.heap.size + 2) n es) := by
          show Gr _ _ _ _
          have h1 := OA.out.ints
          have h2 := OB.out.ints
          rw [List.take_of_length_le (by rw [HL.out]; exact Nat.le_refl _)] at h1 h2
          exact ⟨_, _, _, _, CR.out, h1, h2⟩
        go_wp2_with fail
        go_ret
        exact ⟨(w.heap.size + 2), rfl, G.out, BR.out⟩
  · intro K hK
    go_simp
    refine hK.out _ _ (fun _ => F1.out) ?_
    clear hK K
    try simp only [Act.put, List.setIfInBounds_toArray, List.set_cons_zero, List.set_cons_succ, List.getElem_toArray, List.getElem_cons_zero, List.getElem_cons_succ]
    refine anyR_one (i := 8) (by kernel_rfl) rfl ?_
    intro K hK
    go_simp
    rw [HW.out]
    refine hK.out _ _ (fun _ => F2.out) ?_
    clear hK K
    try simp only [Act.put, List.setIfInBounds_toArray, List.set_cons_zero, List.set_cons_succ, List.getElem_toArray, List.getElem_cons_zero, List.getElem_cons_succ]
    refine anyR_one (i := 14) (by kernel_rfl) rfl ?_
    intro K hK
    go_simp
    refine hK.out _ _ (fun _ => F2.out) ?_
    clear hK K
    try simp only [Act.put, List.setIfInBounds_toArray, List.set_cons_zero, List.set_cons_succ, List.getElem_toArray, List.getElem_cons_zero, List.getElem_cons_succ]
    refine anyR_one (i := 15) (by kernel_rfl) rfl ?_
    intro K hK
    go_simp
    refine hK.out _ _ (fun _ => F3.out _) ?_
    clear hK K
    try simp only [Act.put, List.setIfInBounds_toArray, List.set_cons_zero, List.set_cons_succ, List.getElem_toArray, List.getElem_cons_zero, List.getElem_cons_succ]
    refine anyR_one (i := 16) (by kernel_rfl) rfl ?_
    intro K hK
    go_simp
    refine hK.out _ _ (fun _ => F3.out _) ?_
    clear hK K
    try simp only [Act.put, List.setIfInBounds_toArray, List.set_cons_zero, List.set_cons_succ, List.getElem_toArray, List.getElem_cons_zero, List.getElem_cons_succ]
    refine anyR_done (by kernel_rfl) ?_ _
    refine NoPanic.normal ?_
    have CZ := Lib.hid (Cs.new wb [.int .i64 n, .slice (some ⟨w.heap.size + 1, 0, none⟩) n n, .slice (some ⟨w.heap.size, 0, none⟩) n n] 87)
    have OZA := Lib.hid (OZ2.out.below (bel_alloc wb (.cells #[.int .i64 n, .slice (some ⟨w.heap.size + 1, 0, none⟩) n n, .slice (some ⟨w.heap.size, 0, none⟩) n n] 87)))
    have OZB := Lib.hid (OZ1.out.below (bel_alloc wb (.cells #[.int .i64 n, .slice (some ⟨w.heap.size + 1, 0, none⟩) n n, .slice (some ⟨w.heap.size, 0, none⟩) n n] 87)))
    rw [← E0.out] at OZA
    rw [← E1.out] at OZB
    have BZ := Lib.hid (bel_trans BZ.out (bel_alloc wb (.cells #[.int .i64 n, .slice (some ⟨w.heap.size + 1, 0, none⟩) n n, .slice (some ⟨w.heap.size, 0, none⟩) n n] 87)))
    rw [sz2] at CZ
    clear hS0 y0 hmk sz1
    have hne : (w.heap.size + 1) ≠ (w.heap.size) := by omega
    have hAC : (w.heap.size + 1) ≠ (w.heap.size + 2) := by omega
    have hBC : (w.heap.size) ≠ (w.heap.size + 2) := by omega
    go_wp2_with fail
    go_loopw [4] (fun t wr => ∃ k : Nat, k ≤ m ∧ t = .int .i64 k ∧ OwnI wr w.heap.size (some ⟨(w.heap.size + 1), 0, none⟩) n n (outL n (es.take k)) ∧ OwnI wr w.heap.size (some ⟨(w.heap.size), 0, none⟩) n n (attL n (es.take k)) ∧ Cs wr (w.heap.size + 2) [.int .i64 n, .slice (some ⟨(w.heap.size + 1), 0, none⟩) n n, .slice (some ⟨(w.heap.size), 0, none⟩) n n] ∧ Below w.heap.size w wr) (fun t _ => m - (intOf t).toNat)
    case atStart => exact ⟨0, Nat.zero_le _, rfl, OZA.out, OZB.out, CZ.out, ⟨BZ.out.os, BZ.out.tape, BZ.out.output, BZ.out.size, BZ.out.block⟩⟩
    case round =>
      obtain ⟨k, hk, rfl, oA, oB, cR, bR⟩ := hrel
      have OA := Lib.hid oA
      have OB := Lib.hid oB
      have CR := Lib.hid cR
      have BR := Lib.hid bR
      clear oA oB cR bR OZA OZB CZ BZ
      have f1 := (HC.out.below BR.out).cell 1 rfl
      by_cases hlt : k < m
      · obtain ⟨b, off, p, Ai, ci, rfl, hb, hp, hc, ip⟩ := erow_at (H.out.below BR.out) hlt
        have hpi := OK.out.inn p (List.mem_of_getElem? hp)
        obtain ⟨bA, oA, rfl, hbA, hcA⟩ := ip.2.2.2.2 (by omega)
        have a0 := hcA 0 (p.1 : Int) rfl
        have a1 := hcA 1 (p.2 : Int) rfl
        rw [Nat.add_zero] at a0
        have lA := outM_lt (n := 10) (es := es.take k) (fun q hq => by have := (OK.out.take k q hq).2; omega) p.1
        have lB := attM_lt (n := 10) (es := es.take k) (fun q hq => by have := (OK.out.take k q hq).1; omega) p.2
        have cA := OA.out.cell (attL_at (flip (es.take k)) hpi.1)
        have cB := OB.out.cell (attL_at (es.take k) hpi.2)
        have sl1 := shl_wrap (a := p.1) (by omega)
        have sl2 := shl_wrap (a := p.2) (by omega)
        have tp1 := two_pow_lt (a := p.1) (by omega)
        have tp2 := two_pow_lt (a := p.2) (by omega)
        have k0 := CR.out.cell 0 rfl
        have k1 := CR.out.cell 1 rfl
        have fA := OA.out.free p.1
        have TR := Lib.hid (fun R R2 h1 h2 h3 h4 => two_rows (R := R) (R2 := R2) (M := 0) (M2 := 0) hne hAC hBC OA.out OB.out CR.out BR.out hp h1 h2 h3 h4)
        obtain ⟨M, hM⟩ : ∃ r, attM (flip (es.take k)) p.1 = r := ⟨_, rfl⟩
        obtain ⟨M2, hM2⟩ : ∃ r, attM (es.take k) p.2 = r := ⟨_, rfl⟩
        rw [hM] at lA cA TR
        rw [hM2] at lB cB TR
        have or1 := i64_or M (2 ^ p.2) (by omega) (by omega)
        have or2 := i64_or M2 (2 ^ p.1) (by omega) (by omega)
        rw [show ((2 ^ p.2 : Nat) : Int) = (2 : Int) ^ p.2 by simp] at or1
        rw [show ((2 ^ p.1 : Nat) : Int) = (2 : Int) ^ p.1 by simp] at or2
        have N1 := Nat.or_lt_two_pow (x := M) (y := 2 ^ p.2) (n := 10) lA tp2
        have N2 := Nat.or_lt_two_pow (x := M2) (y := 2 ^ p.1) (n := 10) lB tp1
        obtain ⟨R, hR⟩ : ∃ r, M ||| 2 ^ p.2 = r := ⟨_, rfl⟩
        obtain ⟨R2, hR2⟩ : ∃ r, M2 ||| 2 ^ p.1 = r := ⟨_, rfl⟩
        rw [hR] at or1 N1
        rw [hR2] at or2 N2
        obtain ⟨⟨t1, t2⟩, t3, t4, t5, t6⟩ := TR.out R R2 hR hR2 N1 N2
        have k2 := t2.cell 2 rfl
        have cB2 := t1.cell (attL_at (es.take k) hpi.2)
        rw [hM2] at cB2
        have fB := t1.free p.2
        have T3 := Lib.hid t3
        have T4 := Lib.hid t4
        have T5 := Lib.hid t5
        have T6 := Lib.hid t6
        have j0 : (0 : Int) ≤ (p.1 : Int) := by omega
        have j1 : (0 : Int) ≤ (p.2 : Int) := by omega
        have j2 : (p.1 : Int) < (n : Int) := by omega
        have j3 : (p.2 : Int) < (n : Int) := by omega
        have mn0 : min p.1 64 = p.1 := by omega
        have mn1 : min p.2 64 = p.2 := by omega
        clear hcA ip hp hpi hM hM2 hR hR2 TR t1 t2 t3 t4 t5 t6 cB N1 N2 lA lB
        go_wp2_with fail
        go_roundw
        case rel => exact ⟨k + 1, by omega, by go_num, T3.out, T4.out, T5.out, T6.out⟩
        case measure => simp [intOf]; omega
      · obtain rfl : k = m := by omega
        have G : Hid (Gr wr (w.heap.size + 2) n es) := by
          show Gr _ _ _ _
          have h1 := OA.out.ints
          have h2 := OB.out.ints
          rw [List.take_of_length_le (by rw [HL.out]; exact Nat.le_refl _)] at h1 h2
          exact ⟨_, _, _, _, CR.out, h1, h2⟩
        go_wp2_with fail
        go_ret
        exact ⟨(w.heap.size + 2), rfl, G.out, BR.out⟩
end Go.Proofs.Yteejfjgofpolkaa
