/- The reduct of a frame by a complete set. -/
import Derived.Test.YteejfjgofpolkaaRedMath
import Derived.Test.YteejfjgofpolkaaAtt
import Derived.Test.YteejfjgofpolkaaDrawF
namespace Go.Proofs.Yteejfjgofpolkaa
set_option linter.unusedVariables false
set_option linter.unusedSimpArgs false
set_option maxRecDepth 100000
open Go.RowKit Go.Deep
/-- The arguments left. -/
def lftM (n : Nat) (es : List (Nat × Nat)) (E : Nat) : Nat := ldf (2 ^ n - 1) (E ||| hitM es E)
def nmL (m : Nat) : List Nat := (List.range 10).filter fun i => m.testBit i
theorem nmL_bits (m : Nat) : bitsTo m 10 = (nmL m).map fun i : Nat => (i : Int) := rfl
theorem nmL_len (m : Nat) : (bitsTo m 10).length = (nmL m).length := by rw [nmL_bits, List.length_map]
theorem nmL_at {m i a : Nat} (h : (nmL m)[i]? = some a) : (bitsTo m 10)[i]? = some (a : Int) := by rw [nmL_bits, List.getElem?_map, h]; rfl
theorem nmL_nodup (m : Nat) : (nmL m).Nodup := List.Nodup.sublist List.filter_sublist List.nodup_range
theorem nmL_mem {m a : Nat} : a ∈ nmL m ↔ a < 10 ∧ m.testBit a = true := by unfold nmL; rw [List.mem_filter, List.mem_range]
theorem lft_bit {n : Nat} {es : List (Nat × Nat)} (ok : FrOk n es) {E : Nat} (hE : E < 2 ^ n) (a : Nat) : (lftM n es E).testBit a = true ↔ a < n ∧ E.testBit a = false ∧ (hitM es E).testBit a = false := by
  have h1 := pow10 ok.n10 hE
  have h2 := hitM_lt10 ok E
  have h3 := two_pow_le ok.n10
  have h4 : E ||| hitM es E < 1024 := Nat.or_lt_two_pow (n := 10) (by omega) (by omega)
  unfold lftM
  rw [ldf_bit (by omega) (by omega), Nat.testBit_two_pow_sub_one, Nat.testBit_or, Bool.and_eq_true, decide_eq_true_eq, Bool.not_eq_true', Bool.or_eq_false_iff]
theorem lft_lt {n : Nat} {es : List (Nat × Nat)} (ok : FrOk n es) {E : Nat} (hE : E < 2 ^ n) : lftM n es E < 1024 := pow10 ok.n10 (lt_of_bits fun i hi => ((lft_bit ok hE i).1 hi).1)
/-- The attacks that are found so far. -/
theorem bel_trans' {g : Nat} {a b c : World} (hg : g ≤ a.heap.size) (h : Below g a b) (k : Below b.heap.size b c) : Below g a c := h.trans (k.mono (Nat.le_trans hg h.size))
structure EdgeTo (es : List (Nat × Nat)) (nm : List Nat) (L : List (Nat × Nat)) (i j : Nat) : Prop where
  lt : ∀ p ∈ L, lt2 p (i, j)
  edge : ∀ a b x y, nm[a]? = some x → nm[b]? = some y → lt2 (a, b) (i, j) → ((a, b) ∈ L ↔ (x, y) ∈ es)
theorem EdgeTo.start (es : List (Nat × Nat)) (nm : List Nat) : EdgeTo es nm [] 0 0 := ⟨by simp, fun a b x y _ _ h => by unfold lt2 at h; simp at h⟩
section
variable {es L : List (Nat × Nat)} {nm : List Nat} {i j x y : Nat}
theorem lt2_irr (p : Nat × Nat) : ¬ lt2 p p := by unfold lt2; omega
theorem EdgeTo.yes (h : EdgeTo es nm L i j) (hi : nm[i]? = some x) (hj : nm[j]? = some y) (he : (x, y) ∈ es) : EdgeTo es nm (L ++ [(i, j)]) i (j + 1) := by
  refine ⟨lt2_snoc h.lt, fun a b u v ha hb hl => ?_⟩
  rw [List.mem_append, List.mem_singleton]
  by_cases e : (a, b) = (i, j)
  · obtain ⟨rfl, rfl⟩ := Prod.mk.inj e
    rw [hi] at ha
    rw [hj] at hb
    obtain rfl := Option.some.inj ha
    obtain rfl := Option.some.inj hb
    exact ⟨fun _ => he, fun _ => .inr rfl⟩
  · have : lt2 (a, b) (i, j) := by
      unfold lt2 at *
      simp only [Prod.mk.injEq] at e
      simp only at *
      omega
    rw [← h.edge a b u v ha hb this]
    exact ⟨fun h1 => h1.resolve_right e, .inl⟩
theorem EdgeTo.no (h : EdgeTo es nm L i j) (hi : nm[i]? = some x) (hj : nm[j]? = some y) (he : ¬ (x, y) ∈ es) : EdgeTo es nm L i (j + 1) := by
  refine ⟨lt2_next h.lt, fun a b u v ha hb hl => ?_⟩
  by_cases e : (a, b) = (i, j)
  · obtain ⟨rfl, rfl⟩ := Prod.mk.inj e
    rw [hi] at ha
    rw [hj] at hb
    obtain rfl := Option.some.inj ha
    obtain rfl := Option.some.inj hb
    exact ⟨fun h1 => absurd (h.lt _ h1) (lt2_irr _), fun h1 => absurd h1 he⟩
  · have : lt2 (a, b) (i, j) := by
      unfold lt2 at *
      simp only [Prod.mk.injEq] at e
      simp only at *
      omega
    exact h.edge a b u v ha hb this
theorem EdgeTo.row (h : EdgeTo es nm L i nm.length) : EdgeTo es nm L (i + 1) 0 := by
  refine ⟨fun p hp => ?_, fun a b u v ha hb hl => h.edge a b u v ha hb ?_⟩
  · have := h.lt p hp
    unfold lt2 at *
    simp only at *
    omega
  · have := (List.getElem?_eq_some_iff.1 hb).1
    unfold lt2 at *
    simp only at *
    omega
end
def RedEnd (n : Nat) (es : List (Nat × Nat)) (E : Nat) (w : World) (e : Ending) (w' : World) : Prop :=
  ∃ (es' : List (Nat × Nat)) (A1 : Option Addr) (c1 : Nat) (B2 : Option Addr) (c2 : Nat), e = .returned (.tuple #[.agg #[.int .i64 (nmL (lftM n es E)).length, .slice A1 es'.length c1], .slice B2 (nmL (lftM n es E)).length c2, .bool true]) ∧ Red n es E (nmL (lftM n es E)) (nmL (lftM n es E)).length es' ∧
    Rws w' A1 es'.length c1 (es'.map erow) ∧ Ints .i64 w' B2 (nmL (lftM n es E)).length c2 (bitsTo (lftM n es E) 10) ∧ Below w.heap.size w w'
set_option maxHeartbeats 4000000 in
theorem reduct_ok (n : Nat) (es : List (Nat × Nat)) (ok : FrOk n es) (E : Nat) (hE : E < 2 ^ n) (hc : compB n es E = true) (A : Option Addr) (m c : Nat) (B : Option Addr) (d : Nat) (w : World) (h : Rws w A m c (es.map erow)) (k : Ints .i64 w B (bitsTo E 10).length d (bitsTo E 10)) :
    Calls Try.prog 50 #[.agg #[.int .i64 n, .slice A m c], .slice B (bitsTo E 10).length d] w (RedEnd n es E w) := by
  have a0 := bel_alloc w (.cells #[.int .i64 n, .slice A m c] 26)
  have C00 := Cs.new w [.int .i64 n, .slice A m c] 26
  have a1 := bel_alloc (w.alloc (.cells #[.int .i64 n, .slice A m c] 26)) (.cells #[.int .i64 0, .slice none 0 0] 26)
  have R00 := FO.new (w.alloc (.cells #[.int .i64 n, .slice A m c] 26)) (.int .i64 0) (.slice none 0 0)
  rw [show (w.alloc (.cells #[.int .i64 n, .slice A m c] 26)).heap.size = w.heap.size + 1 by simp] at R00
  have b0 := bel_trans a0 a1
  have C0 := C00.below a1
  have y0 := C0.cell 0 rfl
  have y1 := C0.cell 1 rfl
  have n10 := ok.n10
  have MO := Lib.hid (maskOf_ok n es ok E hE A m c B d _ (h.below b0) (k.below b0))
  have HC := Lib.hid C0
  have HR := Lib.hid R00
  have H := Lib.hid h
  have B0 := Lib.hid b0
  have E10 := pow10 n10 hE
  have DF0 := Lib.hid (fun W (hW : Below w.heap.size w W) => attacked_ok n es ok E E10 A m c W (h.below hW))
  have RD := Lib.hid (fun es' (h1 : FrOk (nmL (lftM n es E)).length es') (h2 : EdgeTo es (nmL (lftM n es E)) es' (nmL (lftM n es E)).length 0) => (show Red n es E (nmL (lftM n es E)) (nmL (lftM n es E)).length es' from
    ⟨ok, hE, hc, rfl, nmL_nodup _, fun a => by rw [nmL_mem, lft_bit ok hE]; have := ok.n10; exact ⟨fun h => h.2, fun h => ⟨by omega, h⟩⟩, h1, fun i j a b hi hj => h2.edge i j a b hi hj (.inl (List.getElem?_eq_some_iff.1 hi).1)⟩))
  have LM10 := lft_lt ok hE
  have ql := hitM_lt10 ok E
  have h2p := two_pow_le n10
  have hsl := shl_wrap10 n10
  have mn0 : min n 64 = n := by omega
  have j0 : (0 : Int) ≤ (n : Int) := by omega
  have hN0 := Nat.two_pow_pos n
  have OE : E ||| hitM es E < 1024 := Nat.or_lt_two_pow (n := 10) (by omega) (by omega)
  have hor := i64_or E (hitM es E) (by omega) (by omega)
  have han := i64_andNot (2 ^ n - 1) (E ||| hitM es E) (by omega) (by omega)
  have LD : ldf (2 ^ n - 1) (E ||| hitM es E) = lftM n es E := rfl
  rw [LD] at han
  obtain ⟨N1, hN1⟩ : ∃ r, 2 ^ n - 1 = r := ⟨_, rfl⟩
  rw [hN1] at han
  obtain ⟨N, hN⟩ : ∃ r, 2 ^ n = r := ⟨_, rfl⟩
  rw [hN] at h2p hsl hN0 hN1
  have ew : IntKind.i64.wrap ((N : Int) - 1) = (N1 : Int) := by rw [show (N1 : Int) = (N : Int) - 1 by omega]; exact wrap_pred h2p
  obtain ⟨q, hq⟩ : ∃ r, hitM es E = r := ⟨_, rfl⟩
  rw [hq] at DF0 ql OE hor han
  obtain ⟨OQ, hOQ⟩ : ∃ r, E ||| q = r := ⟨_, rfl⟩
  rw [hOQ] at OE hor han
  have UL := Lib.hid (show ∀ l : Nat, l = lftM n es E → True from fun _ _ => trivial)
  unfold RedEnd
  obtain ⟨LM, hLM⟩ : ∃ r, lftM n es E = r := ⟨_, rfl⟩
  rw [hLM] at RD LM10 han ⊢
  clear h k C0 b0 a0 a1 C00 R00 ok hc hN hq hLM LD UL hE hOQ
  go_enter Try.func50, Try.ntmps50
  go_wp2_with fail
  refine MO.out.mono ?_
  rintro e w1 ⟨rfl, b1⟩
  have C1 := Lib.hid (HC.out.below b1)
  have R1 := Lib.hid (HR.out.below b1)
  have B1 := Lib.hid (bel_trans B0.out b1)
  clear y0 y1 b1 MO
  go_wp2_with fail
  have SS := Lib.hid (fun (W : World) (hW : Below w1.heap.size w1 W) => (show Below w1.heap.size w1 W ∧ W.cell? ⟨w.heap.size, 0, none⟩ = some (.int .i64 n) ∧ W.cell? ⟨w.heap.size, 1, none⟩ = some (.slice A m c) from ⟨hW, (C1.out.below hW).cell 0 rfl, (C1.out.below hW).cell 1 rfl⟩))
  have DF := Lib.hid (fun W (hW : Below w1.heap.size w1 W) => DF0.out W (bel_trans B1.out hW))
  refine wp_region_noPanic ?_
  refine wp_region_R (inFirst (fun W => Below w1.heap.size w1 W ∧ W.cell? ⟨w.heap.size, 0, none⟩ = some (.int .i64 n) ∧ W.cell? ⟨w.heap.size, 1, none⟩ = some (.slice A m c)) 12) (by kernel_rfl) ?_
  have hS := SS.out w1.drew ⟨rfl, rfl, rfl, Nat.le_refl _, fun _ _ => rfl⟩
  refine anyR_take (i := 0) (.pointer (some ⟨w.heap.size, 0, none⟩)) rfl (by kernel_rfl) (by kernel_rfl) (by kernel_rfl) (by kernel_rfl) (fun _ _ _ h => h) (by assumption) ⟨by rfl, ?_⟩ ?_
  · intro W hW
    go_simp
  try simp only [Act.put, List.setIfInBounds_toArray, List.set_cons_zero, List.set_cons_succ, List.getElem_toArray, List.getElem_cons_zero, List.getElem_cons_succ]
  refine anyR_take (i := 1) (.int .i64 n) rfl (by kernel_rfl) (by kernel_rfl) (by kernel_rfl) (by kernel_rfl) (fun _ _ _ h => h) (by assumption) ⟨by rfl, ?_⟩ ?_
  · intro W hW
    go_simp
  try simp only [Act.put, List.setIfInBounds_toArray, List.set_cons_zero, List.set_cons_succ, List.getElem_toArray, List.getElem_cons_zero, List.getElem_cons_succ]
  refine anyR_take (i := 2) (.int .i64 (N : Nat)) rfl (by kernel_rfl) (by kernel_rfl) (by kernel_rfl) (by kernel_rfl) (fun _ _ _ h => h) (by assumption) ⟨by rfl, ?_⟩ ?_
  · intro W hW
    go_simp
  try simp only [Act.put, List.setIfInBounds_toArray, List.set_cons_zero, List.set_cons_succ, List.getElem_toArray, List.getElem_cons_zero, List.getElem_cons_succ]
  refine anyR_take (i := 3) (.int .i64 (N1 : Nat)) rfl (by kernel_rfl) (by kernel_rfl) (by kernel_rfl) (by kernel_rfl) (fun _ _ _ h => h) (by assumption) ⟨by rfl, ?_⟩ ?_
  · intro W hW
    go_simp
  try simp only [Act.put, List.setIfInBounds_toArray, List.set_cons_zero, List.set_cons_succ, List.getElem_toArray, List.getElem_cons_zero, List.getElem_cons_succ]
  refine anyR_take (i := 4) (.int .i64 E) rfl (by kernel_rfl) (by kernel_rfl) (by kernel_rfl) (by kernel_rfl) (fun _ _ _ h => h) (by assumption) ⟨by rfl, ?_⟩ ?_
  · intro W hW
    go_simp
  try simp only [Act.put, List.setIfInBounds_toArray, List.set_cons_zero, List.set_cons_succ, List.getElem_toArray, List.getElem_cons_zero, List.getElem_cons_succ]
  refine anyR_take (i := 5) (.agg #[.int .i64 n, .slice A m c]) rfl (by kernel_rfl) (by kernel_rfl) (by kernel_rfl) (by kernel_rfl) (fun _ _ _ h => h) (by assumption) ⟨by rfl, ?_⟩ ?_
  · intro W hW
    go_simp
  try simp only [Act.put, List.setIfInBounds_toArray, List.set_cons_zero, List.set_cons_succ, List.getElem_toArray, List.getElem_cons_zero, List.getElem_cons_succ]
  refine anyR_take (i := 6) (.int .i64 E) rfl (by kernel_rfl) (by kernel_rfl) (by kernel_rfl) (by kernel_rfl) (fun _ _ _ h => h) (by assumption) ⟨by rfl, ?_⟩ ?_
  · intro W hW
    go_simp
  try simp only [Act.put, List.setIfInBounds_toArray, List.set_cons_zero, List.set_cons_succ, List.getElem_toArray, List.getElem_cons_zero, List.getElem_cons_succ]
  refine anyR_one (i := 7) (by kernel_rfl) rfl ?_
  intro K hK
  go_simp
  go_at_call 94
  refine (DF.out _ hS.1).mono ?_
  rintro e w9 ⟨rfl, b9⟩
  have hT := SS.out w9 (bel_trans hS.1 b9)
  refine hK.out _ _ (fun _ => hT) ?_
  clear hS b9
  have hS := hT
  clear hT
  clear hK K
  try simp only [Act.put, List.setIfInBounds_toArray, List.set_cons_zero, List.set_cons_succ, List.getElem_toArray, List.getElem_cons_zero, List.getElem_cons_succ]
  refine anyR_take (i := 8) (.int .i64 (OQ : Nat)) rfl (by kernel_rfl) (by kernel_rfl) (by kernel_rfl) (by kernel_rfl) (fun _ _ _ h => h) (by assumption) ⟨by rfl, ?_⟩ ?_
  · intro W hW
    go_simp
  try simp only [Act.put, List.setIfInBounds_toArray, List.set_cons_zero, List.set_cons_succ, List.getElem_toArray, List.getElem_cons_zero, List.getElem_cons_succ]
  refine anyR_take (i := 9) (.int .i64 (LM : Nat)) rfl (by kernel_rfl) (by kernel_rfl) (by kernel_rfl) (by kernel_rfl) (fun _ _ _ h => h) (by assumption) ⟨by rfl, ?_⟩ ?_
  · intro W hW
    go_simp
  try simp only [Act.put, List.setIfInBounds_toArray, List.set_cons_zero, List.set_cons_succ, List.getElem_toArray, List.getElem_cons_zero, List.getElem_cons_succ]
  refine anyR_one (i := 10) (by kernel_rfl) rfl ?_
  intro K hK
  go_simp
  go_at_call 60
  refine (setOf_any LM LM10 _).mono ?_
  rintro e w2 ⟨A2, c2, rfl, o2, b2⟩
  have hT := SS.out w2 (bel_trans hS.1 b2)
  have O2 := Lib.hid (o2.mono (b2 := w1.heap.size) hS.1.size)
  refine hK.out _ _ (fun _ => hT) ?_
  clear hS b2 o2
  have hS := hT
  clear hT
  clear hK K
  try simp only [Act.put, List.setIfInBounds_toArray, List.set_cons_zero, List.set_cons_succ, List.getElem_toArray, List.getElem_cons_zero, List.getElem_cons_succ]
  refine anyR_take (i := 11) (.slice A2 (bitsTo LM 10).length c2) rfl (by kernel_rfl) (by kernel_rfl) (by kernel_rfl) (by kernel_rfl) (fun _ _ _ h => h) (by assumption) ⟨by rfl, ?_⟩ ?_
  · intro W hW
    go_simp
  try simp only [Act.put, List.setIfInBounds_toArray, List.set_cons_zero, List.set_cons_succ, List.getElem_toArray, List.getElem_cons_zero, List.getElem_cons_succ]
  refine anyR_done (by kernel_rfl) ?_ _
  refine NoPanic.normal ?_
  have B2 := Lib.hid hS.1
  clear hS SS DF DF0
  have K10 : (nmL LM).length ≤ 10 := by rw [← nmL_len]; exact bitsTo_len LM 10
  have NA := Lib.hid (fun i a (hi : (nmL LM)[i]? = some a) => nmL_at hi)
  have OL := Lib.hid (show OwnI w2 w.heap.size A2 (nmL LM).length c2 (bitsTo LM 10) from by
    have o := O2.out
    rw [nmL_len] at o
    exact o.mono (by have := B1.out.size; omega))
  simp only [nmL_len]
  obtain ⟨nm, hnm⟩ : ∃ l, nmL LM = l := ⟨_, rfl⟩
  rw [hnm] at K10 NA OL RD
  simp only [hnm]
  have B3 := Lib.hid (bel_trans B1.out B2.out)
  have C3 := Lib.hid (C1.out.below B2.out)
  have R3 := Lib.hid (R1.out.below B2.out)
  have aO := bel_alloc w2 (.cells #[.int .i64 nm.length, .slice none 0 0] 26)
  have F4 := Lib.hid (FO.new w2 (.int .i64 nm.length) (.slice none 0 0))
  have X4 := Lib.hid aO
  have sz2 := B3.out.size
  obtain ⟨gO, hgO⟩ : ∃ g, w2.heap.size = g := ⟨_, rfl⟩
  have M4 := Lib.hid (show OwnM (w2.alloc (.cells #[.int .i64 nm.length, .slice none 0 0] 26)) (gO + 1) none 0 0 [] (([] : List (Nat × Nat)).map erow) from ⟨⟨rfl, .inl ⟨rfl, rfl⟩⟩, rfl, by simp, .nil⟩)
  have GO := Lib.hid hgO
  clear O2 aO R1 B2 C1
  go_wp2_with fail
  rw [hgO] at F4 X4
  clear hgO
  go_loopw [40] (fun t wr => ∃ (i : Nat) (Q : Option Addr) (d : Nat) (vs : List Value) (L : List (Nat × Nat)), i ≤ nm.length ∧ t = .int .i64 i ∧ FO wr gO (.int .i64 nm.length) (.slice Q L.length d) ∧ OwnM wr (gO + 1) Q L.length d vs (L.map erow) ∧ FrOk nm.length L ∧ EdgeTo es nm L i 0 ∧ L.length ≤ 11 * i ∧ Below gO w2 wr) (fun t _ => nm.length - (intOf t).toNat)
  case atStart => exact ⟨0, none, 0, [], [], Nat.zero_le _, rfl, F4.out, M4.out, ⟨K10, by simp, by simp⟩, EdgeTo.start es nm, by simp, X4.out⟩
  case round =>
    obtain ⟨i, Q, dq, vs, L, hi, rfl, hF, hM, hO, hE, hle, hX⟩ := hrel
    have F5 := Lib.hid hF
    have M5 := Lib.hid hM
    have O5 := Lib.hid hO
    have E5 := Lib.hid hE
    have X5 := Lib.hid hX
    have OL5 := Lib.hid (OL.out.below (GO.out ▸ hX))
    clear hF hM hO hE hX F4 M4 X4
    by_cases hlt : i < nm.length
    · have d0 := decide_eq_true (show (i : Int) < (nm.length : Int) by omega)
      have i0 : (0 : Int) ≤ (i : Int) := by omega
      have i1 : (i : Int) < (nm.length : Int) := by omega
      obtain ⟨a, ha⟩ : ∃ a, nm[i]? = some a := ⟨_, List.getElem?_eq_getElem hlt⟩
      obtain ⟨b, off, rfl, ca⟩ := OL5.out.ints.get (NA.out i a ha)
      have HA := Lib.hid ha
      clear ha
      go_wp2_with fail
      go_loopw [47] (fun t wr => ∃ (j : Nat) (Q : Option Addr) (d : Nat) (vs : List Value) (L : List (Nat × Nat)), j ≤ nm.length ∧ t = .int .i64 j ∧ FO wr gO (.int .i64 nm.length) (.slice Q L.length d) ∧ OwnM wr (gO + 1) Q L.length d vs (L.map erow) ∧ FrOk nm.length L ∧ EdgeTo es nm L i j ∧ L.length ≤ 11 * i + j ∧ Below gO w2 wr) (fun t _ => nm.length - (intOf t).toNat)
      case atStart => exact ⟨0, Q, dq, vs, L, Nat.zero_le _, rfl, F5.out, M5.out, O5.out, E5.out, by omega, X5.out⟩
      case round =>
        obtain ⟨j, Q, dq, vs, L, hj, rfl, hF, hM, hO, hE, hle, hX⟩ := hrel
        have F6 := Lib.hid hF
        have M6 := Lib.hid hM
        have O6 := Lib.hid hO
        have E6 := Lib.hid hE
        have X6 := Lib.hid hX
        have C6 := C3.out.below (GO.out ▸ hX)
        have OL6 := Lib.hid (OL.out.below (GO.out ▸ hX))
        have H6 := Lib.hid (H.out.below (bel_trans B3.out (GO.out ▸ hX)))
        clear hF hM hO hE hX F5 M5 O5 E5
        by_cases hjl : j < nm.length
        · have dj := decide_eq_true (show (j : Int) < (nm.length : Int) by omega)
          have jj0 : (0 : Int) ≤ (j : Int) := by omega
          have jj1 : (j : Int) < (nm.length : Int) := by omega
          obtain ⟨a2, ha2⟩ : ∃ a, nm[j]? = some a := ⟨_, List.getElem?_eq_getElem hjl⟩
          obtain ⟨b', off', e1, ca2⟩ := OL6.out.ints.get (NA.out j a2 ha2)
          simp only [Option.some.injEq, Addr.mk.injEq, and_true] at e1
          obtain ⟨rfl, rfl⟩ := e1
          have y0 := C6.cell 0 rfl
          have y1 := C6.cell 1 rfl
          have AC := Lib.hid (attacks_ok es n a a2 A m c _ H6.out)
          obtain ⟨v, hv⟩ : ∃ v, attB es (a : Int) (a2 : Int) = v := ⟨_, rfl⟩
          rw [hv] at AC
          cases v
          · have NE := Lib.hid (E6.out.no HA.out ha2 (fun hm => by rw [(attB_nat a a2).2 hm] at hv; exact absurd hv (by simp)))
            clear hv ha2 C6
            go_wp2_with fail
            refine AC.out.mono ?_
            rintro e w7 ⟨rfl, u7⟩
            have F7 := Lib.hid (F6.out.below u7)
            have M7 := Lib.hid (M6.out.below u7)
            have X7 := Lib.hid (bel_trans' (Nat.le_of_eq GO.out.symm) X6.out u7)
            clear u7 AC
            go_wp2_with fail
            go_roundw
            case rel => exact ⟨j + 1, Q, dq, vs, L, by omega, by go_num, F7.out, M7.out, O6.out, NE.out, by omega, X7.out⟩
            case measure => simp [intOf]; omega
          · have YE := Lib.hid (E6.out.yes HA.out ha2 ((attB_nat a a2).1 hv))
            have OF := Lib.hid (O6.out.snoc hlt hjl E6.out.lt)
            clear hv ha2 C6
            go_wp2_with fail
            refine AC.out.mono ?_
            rintro e w7 ⟨rfl, u7⟩
            have F7 := Lib.hid (F6.out.below u7)
            have M7 := Lib.hid (M6.out.below u7)
            have X7 := Lib.hid (bel_trans' (Nat.le_of_eq GO.out.symm) X6.out u7)
            clear u7 AC
            have sz7 : gO + 1 ≤ w7.heap.size := by have := F7.out.lt; omega
            have bl := bel_alloc w7 (.cells #[.int .i64 i, .int .i64 j] 2)
            have ROW0 := (show OwnI (w7.alloc (.cells #[.int .i64 i, .int .i64 j] 2)) w7.heap.size (some ⟨w7.heap.size, 0, none⟩) 2 2 [(i : Int), (j : Int)] from ownI_lits w7 [(i : Int), (j : Int)] (by intro z hz; simp at hz; rcases hz with rfl | rfl <;> exact WalkArith.wf_i64 (by omega)) (by simp))
            have M8 := Lib.hid (M7.out.below bl)
            have F8 := Lib.hid (F7.out.below bl)
            have X8 := Lib.hid (bel_trans' (Nat.le_of_eq GO.out.symm) X7.out bl)
            have AP := Lib.hid (apart_new (base := 0) (fun v hv g' hg' => (M7.out.blocks v hv g' hg').2) ROW0)
            have ROW := Lib.hid (ROW0.mono (b2 := gO + 1) sz7)
            have sz8 : gO + 1 ≤ (w7.alloc (.cells #[.int .i64 i, .int .i64 j] 2)).heap.size := by simp; omega
            have SZ8 := Lib.hid (show (w7.alloc (.cells #[.int .i64 i, .int .i64 j] 2)).heap.size = w7.heap.size + 1 by simp)
            have fc1 := F7.out.cells.2
            have hes : L.length ≤ 1099511627776 := by omega
            clear ROW0 bl y0 y1
            go_wp2_with (at_builtin; refine app_row (w7.alloc (.cells #[.int .i64 i, .int .i64 j] 2)) rfl _ _ rfl (gO + 1) Q L.length dq vs (L.map erow) rfl M8.out (some ⟨w7.heap.size, 0, none⟩) 2 2 [(i : Int), (j : Int)] ROW.out AP.out (by rw [SZ8.out]; rfl) hes sz8 ?_; intro Q' d' w9 p1 p2; have M9 := Lib.hid p1; have F9 := Lib.hid (F8.out.keepM M8.out p2); have X9 := Lib.hid (X8.out.grown p2 (by omega) (fun r hr => by have := (M8.out.block r hr).1; omega)); have fd1 := F9.out.cells.2; have fd2 := F9.out.free 1; clear p1 p2)
            obtain ⟨st1, st2⟩ := F9.out.set1 (.slice Q' (L.length + 1) d')
            have hln : (L ++ [(i, j)]).length = L.length + 1 := by simp
            have FF : Hid (FO (w9.setCell ⟨gO, 1, none⟩ (.slice Q' (L.length + 1) d')) gO (.int .i64 nm.length) (.slice Q' (L ++ [(i, j)]).length d')) := by show FO _ _ _ _; rw [hln]; exact st1
            have MF : Hid (OwnM (w9.setCell ⟨gO, 1, none⟩ (.slice Q' (L.length + 1) d')) (gO + 1) Q' (L ++ [(i, j)]).length d' (vs ++ [.slice (some ⟨w7.heap.size, 0, none⟩) 2 2]) ((L ++ [(i, j)]).map erow)) := by
              show OwnM _ _ _ _ _ _ _
              rw [hln, List.map_append]
              exact F9.out.keeps M9.out st2
            have XF := Lib.hid (X9.out.setCell (p := ⟨gO, 1, none⟩) (Nat.le_refl _) (.slice Q' (L.length + 1) d'))
            have HLN := Lib.hid hln
            clear st1 st2 hln
            go_roundw
            case rel => exact ⟨j + 1, Q', d', _, L ++ [(i, j)], by omega, by go_num, FF.out, MF.out, OF.out, YE.out, by rw [HLN.out]; omega, XF.out⟩
            case measure => simp [intOf]; omega
        · have hjk : j = nm.length := by omega
          have dj := decide_eq_false (show ¬ (j : Int) < (nm.length : Int) by omega)
          have ER := Lib.hid (show EdgeTo es nm L (i + 1) 0 from by have := E6.out; rw [hjk] at this; exact this.row)
          go_wp2_with fail
          go_roundw
          case rel => exact ⟨i + 1, Q, dq, vs, L, by omega, by go_num, F6.out, M6.out, O6.out, ER.out, by omega, X6.out⟩
          case measure => simp [intOf]; omega
    · have hik : i = nm.length := by omega
      have d0 := decide_eq_false (show ¬ (i : Int) < (nm.length : Int) by omega)
      have RED := Lib.hid (RD.out L O5.out (by have := E5.out; rwa [hik] at this))
      have R5 := R3.out.below (GO.out ▸ X5.out)
      have fc0 := F5.out.cells.1
      have fc1 := F5.out.cells.2
      have rf0 := R5.free 0
      have rf1 := R5.free 1
      have rc0 := R5.cells.1
      have rc1 := R5.cells.2
      have RL := R5.lt
      obtain ⟨s1, s2⟩ := R5.set0 (.int .i64 nm.length)
      obtain ⟨s3, s4⟩ := s1.set1 (.slice Q L.length dq)
      have ME := Lib.hid ((s1.keeps (R5.keeps M5.out s2) s4))
      have BW := bel_trans B3.out (GO.out ▸ X5.out)
      have BE := Lib.hid ((BW.setCell (p := ⟨w.heap.size + 1, 0, none⟩) (by simp) (.int .i64 nm.length)).setCell (p := ⟨w.heap.size + 1, 1, none⟩) (by simp) (.slice Q L.length dq))
      have OE5 := Lib.hid ((OL5.out.kept s2 (own_ne OL5.out.1 R5 (by decide))).kept s4 (own_ne (OL5.out.kept s2 (own_ne OL5.out.1 R5 (by decide))).1 s1 (by decide)))
      have re0 := s3.cells.1
      have re1 := s3.cells.2
      have RE0 := Lib.hid re0
      have RE1 := Lib.hid re1
      clear s1 s2 s3 s4 re0 re1 R5 BW
      have HNM := Lib.hid hnm
      clear hnm
      go_wp2_with fail
      obtain ⟨w9, hw9⟩ : ∃ z, (wr.setCell ⟨w.heap.size + 1, 0, none⟩ (.int .i64 nm.length)).setCell ⟨w.heap.size + 1, 1, none⟩ (.slice Q L.length dq) = z := ⟨_, rfl⟩
      rw [hw9] at ME BE RE0 RE1 OE5 ⊢
      have re0 := RE0.out
      have re1 := RE1.out
      exact bodyPost_ret (v := .tuple #[.agg #[.int .i64 nm.length, .slice Q L.length dq], .slice A2 nm.length c2, .bool true]) (by simp [results, Try.results50, go_sem, re0, re1]) rfl ⟨L, Q, dq, A2, c2, by rw [HNM.out], by rw [HNM.out]; exact RED.out, ME.out.rws, by rw [HNM.out]; exact OE5.out.ints, BE.out⟩
end Go.Proofs.Yteejfjgofpolkaa
