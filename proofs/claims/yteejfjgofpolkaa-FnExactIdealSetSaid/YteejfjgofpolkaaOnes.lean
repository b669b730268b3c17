/- math/bits.OnesCount at masks, and the greatest admissible set below the common part of the preferred ones. -/
import Derived.Test.YteejfjgofpolkaaRnd2
namespace Go.Proofs.Yteejfjgofpolkaa
set_option linter.unusedVariables false
set_option linter.unusedSimpArgs false
set_option maxRecDepth 100000
open Go.RowKit
def bitF (x : Nat) (i : Nat) : Int := if x.testBit i = true then 1 else 0
/-- The bits of a mask below k. -/
def pcn (x : Nat) (k : Nat) : Nat := cnt (bitF x) k
theorem bitF_ne {x i : Nat} : bitF x i ≠ 0 ↔ x.testBit i = true := by unfold bitF; split <;> simp_all
theorem pcn_le {m o : Nat} (h : ∀ i, m.testBit i = true → o.testBit i = true) (k : Nat) : pcn m k ≤ pcn o k := cnt_mono k fun a _ ha => bitF_ne.2 (h a (bitF_ne.1 ha))
theorem pcn_lt {m o k : Nat} (h : ∀ i, m.testBit i = true → o.testBit i = true) (hm : m < 2 ^ k) (ho : o < 2 ^ k) (hne : m ≠ o) : pcn m k < pcn o k := by
  have : ∃ i, i < k ∧ m.testBit i = false ∧ o.testBit i = true := Classical.byContradiction fun hx => hne (mask_eq hm ho fun i hi => by
    cases e : o.testBit i
    · cases e2 : m.testBit i
      · rfl
      · rw [h i e2] at e; exact absurd e (by simp)
    · cases e2 : m.testBit i
      · exact (hx ⟨i, hi, e2, e⟩).elim
      · rfl)
  obtain ⟨i, hi, h1, h2⟩ := this
  refine cnt_lt k (fun a _ ha => bitF_ne.2 (h a (bitF_ne.1 ha))) i hi ?_ (bitF_ne.2 h2)
  unfold bitF; rw [h1]; rfl
def on1 (x : Int) : Int := IntKind.u64.wrap (bits BinOp.and IntKind.u64 (x / 2) 6148914691236517205 + bits BinOp.and IntKind.u64 x 6148914691236517205)
def on2 (s : Int) : Int := IntKind.u64.wrap (bits BinOp.and IntKind.u64 (s / 4) 3689348814741910323 + bits BinOp.and IntKind.u64 s 3689348814741910323)
def on3 (s : Int) : Int := bits BinOp.and IntKind.u64 (IntKind.u64.wrap (s / 16 + s)) 1085102592571150095
def on4 (s : Int) (d : Int) : Int := IntKind.u64.wrap (s + s / d)
def ones (x : Int) : Int := bits BinOp.and IntKind.i64 (IntKind.i64.wrap (on4 (on4 (on4 (on3 (on2 (on1 x))) 256) 65536) 4294967296)) 127
theorem ones_all : ((List.range 1024).all fun x => ones (x : Nat) == ((pcn x 10 : Nat) : Int)) = true := by decide +kernel
theorem ones_eq {x : Nat} (hx : x < 1024) : ones (x : Nat) = ((pcn x 10 : Nat) : Int) := by
  have := List.all_eq_true.1 ones_all x (List.mem_range.2 hx)
  simpa using this
theorem ones64_ok (x : Nat) (hx : x < 1024) (w : World) : Calls Try.prog 109 #[.int .u64 x] w fun e w' => e = .returned (.int .i64 (pcn x 10 : Nat)) ∧ w = w' := by
  have E := ones_eq hx
  unfold ones at E
  obtain ⟨a1, h1⟩ : ∃ a, on1 (x : Nat) = a := ⟨_, rfl⟩
  rw [h1] at E
  obtain ⟨a2, h2⟩ : ∃ a, on2 a1 = a := ⟨_, rfl⟩
  rw [h2] at E
  obtain ⟨a3, h3⟩ : ∃ a, on3 a2 = a := ⟨_, rfl⟩
  rw [h3] at E
  obtain ⟨a4, h4⟩ : ∃ a, on4 a3 256 = a := ⟨_, rfl⟩
  rw [h4] at E
  obtain ⟨a5, h5⟩ : ∃ a, on4 a4 65536 = a := ⟨_, rfl⟩
  rw [h5] at E
  obtain ⟨a6, h6⟩ : ∃ a, on4 a5 4294967296 = a := ⟨_, rfl⟩
  rw [h6] at E
  unfold on1 at h1
  unfold on2 at h2
  unfold on3 at h3
  unfold on4 at h4 h5 h6
  rw [IntWalk.i64_left] at E
  go_enter Try.func109, Try.ntmps109
  go_wp2_with fail
  go_ret
  exact ⟨rfl, rfl⟩
theorem ones_ok (x : Nat) (hx : x < 1024) (w : World) : Calls Try.prog 85 #[.int .u64 x] w fun e w' => e = .returned (.int .i64 (pcn x 10 : Nat)) ∧ w = w' := by
  go_enter Try.func85, Try.ntmps85
  go_wp2_with fail
  refine (ones64_ok x hx _).mono ?_
  rintro e w1 ⟨rfl, rfl⟩
  go_wp2_with fail
  go_ret
  exact ⟨rfl, rfl⟩
/-- The common part of masks. -/
def comM (n : Nat) (L : List Nat) : Nat := L.foldl (fun o m => o &&& m) (2 ^ n - 1)
theorem comM_snoc (n : Nat) (L : List Nat) (m : Nat) : comM n (L ++ [m]) = comM n L &&& m := by simp [comM]
theorem com_fold (i : Nat) : ∀ (L : List Nat) (o : Nat), (L.foldl (fun o m => o &&& m) o).testBit i = true ↔ o.testBit i = true ∧ ∀ m ∈ L, m.testBit i = true
  | [], o => by simp
  | x :: L, o => by
    rw [List.foldl_cons, com_fold i L, Nat.testBit_and, Bool.and_eq_true]
    constructor
    · rintro ⟨⟨h1, h2⟩, h3⟩
      exact ⟨h1, fun m hm => by rcases List.mem_cons.1 hm with rfl | hm; exact h2; exact h3 m hm⟩
    · rintro ⟨h1, h2⟩
      exact ⟨⟨h1, h2 x List.mem_cons_self⟩, fun m hm => h2 m (List.mem_cons_of_mem _ hm)⟩
theorem comM_bit (n : Nat) (L : List Nat) (i : Nat) : (comM n L).testBit i = true ↔ i < n ∧ ∀ m ∈ L, m.testBit i = true := by
  unfold comM
  rw [com_fold, Nat.testBit_two_pow_sub_one, decide_eq_true_eq]
theorem comM_lt (n : Nat) (L : List Nat) : comM n L < 2 ^ n := lt_of_bits fun i hi => ((comM_bit n L i).1 hi).1
def itM (n : Nat) (es : List (Nat × Nat)) (C : Nat) : Nat → Nat
  | 0 => C
  | k + 1 => itM n es C k &&& dfdM n es (itM n es C k)
theorem and_sbs (a b : Nat) : Sbs (a &&& b) a := fun i hi => by rw [Nat.testBit_and, Bool.and_eq_true] at hi; exact hi.1
theorem itM_lt {n : Nat} {es : List (Nat × Nat)} {C : Nat} (hC : C < 2 ^ n) : ∀ k, itM n es C k < 2 ^ n
  | 0 => hC
  | k + 1 => Nat.lt_of_le_of_lt Nat.and_le_left (itM_lt hC k)
theorem itM_sbs (n : Nat) (es : List (Nat × Nat)) (C : Nat) : ∀ k, Sbs (itM n es C k) C
  | 0 => Sbs.refl C
  | k + 1 => (and_sbs _ _).trans (itM_sbs n es C k)
theorem itM_good {n : Nat} {es : List (Nat × Nat)} (ok : FrOk n es) {C x : Nat} (hx : x < 2 ^ n) (hg : Goo es x) (hs : Sbs x C) : ∀ k, Sbs x (itM n es C k)
  | 0 => hs
  | k + 1 => fun i hi => by
    have ih := itM_good ok hx hg hs k
    show (itM n es C k &&& dfdM n es (itM n es C k)).testBit i = true
    rw [Nat.testBit_and, ih i hi, (dfdM_bit ok _ i).2 ⟨bit_lt hx hi, (hg.2 i hi).mono ih⟩]
    rfl
theorem itM_count {n : Nat} {es : List (Nat × Nat)} {C : Nat} (hC : C < 2 ^ n) : ∀ k, itM n es C (k + 1) = itM n es C k ∨ pcn (itM n es C (k + 1)) n + k + 1 ≤ n
  | 0 => by
    by_cases e : itM n es C 1 = itM n es C 0
    · exact .inl e
    · have h1 : pcn (itM n es C 1) n < pcn (itM n es C 0) n := pcn_lt (and_sbs _ _) (itM_lt hC 1) (itM_lt hC 0) e
      have h2 := cnt_le (bitF (itM n es C 0)) n
      have h3 : pcn (itM n es C 0) n ≤ n := h2
      exact .inr (by show pcn (itM n es C 1) n + 0 + 1 ≤ n; omega)
  | k + 1 => by
    rcases itM_count hC k with e | h
    · left
      show itM n es C (k + 1) &&& dfdM n es (itM n es C (k + 1)) = itM n es C (k + 1)
      rw [e]
      exact e
    · by_cases e : itM n es C (k + 2) = itM n es C (k + 1)
      · exact .inl e
      · have h1 : pcn (itM n es C (k + 2)) n < pcn (itM n es C (k + 1)) n := pcn_lt (and_sbs _ _) (itM_lt hC (k + 2)) (itM_lt hC (k + 1)) e
        exact .inr (by show pcn (itM n es C (k + 2)) n + (k + 1) + 1 ≤ n; omega)
noncomputable def idlM (n : Nat) (es : List (Nat × Nat)) : Nat := itM n es (comM n (prefM n es)) n
theorem idl_good {n : Nat} {es : List (Nat × Nat)} (ok : FrOk n es) : Goo es (idlM n es) := by
  have hC := comM_lt n (prefM n es)
  have fix : itM n es (comM n (prefM n es)) (n + 1) = itM n es (comM n (prefM n es)) n := by
    rcases itM_count (es := es) hC n with h | h
    · exact h
    · omega
  refine ⟨?_, fun a ha => ?_⟩
  · obtain ⟨p, hp⟩ := List.exists_mem_of_ne_nil _ (prefM_some ok)
    have hg := (prefB_iff.1 (allM_mem.1 hp).2).1.1
    have hs : Sbs (idlM n es) p := fun i hi => ((comM_bit n _ i).1 (itM_sbs n es _ n i hi)).2 p hp
    exact fun a b hab ha hb => hg a b hab (hs a ha) (hs b hb)
  · have h : (itM n es (comM n (prefM n es)) (n + 1)).testBit a = true := by rw [fix]; exact ha
    have h2 : (itM n es (comM n (prefM n es)) n &&& dfdM n es (itM n es (comM n (prefM n es)) n)).testBit a = true := h
    rw [Nat.testBit_and, Bool.and_eq_true] at h2
    exact ((dfdM_bit ok _ a).1 h2.2).2
theorem idl_lt (n : Nat) (es : List (Nat × Nat)) : idlM n es < 2 ^ n := itM_lt (comM_lt n _) n
theorem idl_sub (n : Nat) (es : List (Nat × Nat)) : Sbs (idlM n es) (comM n (prefM n es)) := itM_sbs n es _ n
theorem idl_max {n : Nat} {es : List (Nat × Nat)} (ok : FrOk n es) {x : Nat} (hx : x < 2 ^ n) (hg : Goo es x) (hs : Sbs x (comM n (prefM n es))) : Sbs x (idlM n es) := itM_good ok hx hg hs n
/-- What the program's search knows behind the masks l. -/
def IdlInv (n : Nat) (es : List (Nat × Nat)) (l : List Nat) (best : Nat) : Prop := best < 2 ^ n ∧ Goo es best ∧ Sbs best (comM n (prefM n es)) ∧ (idlM n es ∈ l → best = idlM n es)
theorem IdlInv.start (n : Nat) (es : List (Nat × Nat)) : IdlInv n es [] 0 := ⟨Nat.two_pow_pos n, goo_nil, fun i h => by simp at h, fun h => by simp at h⟩
theorem pcn10 {n m o : Nat} (hn : n ≤ 10) (h : Sbs m o) (hm : m < 2 ^ n) (ho : o < 2 ^ n) (hne : m ≠ o) : pcn m 10 < pcn o 10 := pcn_lt h (pow10 hn hm) (pow10 hn ho) hne
theorem IdlInv.yes {n : Nat} {es : List (Nat × Nat)} (ok : FrOk n es) {l : List Nat} {best x : Nat} (h : IdlInv n es l best) (hx : x < 2 ^ n) (hg : Goo es x) (hs : Sbs x (comM n (prefM n es))) (hp : pcn best 10 < pcn x 10) : IdlInv n es (l ++ [x]) x := by
  refine ⟨hx, hg, hs, fun hm => ?_⟩
  rcases List.mem_append.1 hm with hm | hm
  · have e := h.2.2.2 hm
    rw [e] at hp
    have := pcn_le (idl_max ok hx hg hs) 10
    omega
  · simp at hm; exact hm.symm
theorem IdlInv.no {n : Nat} {es : List (Nat × Nat)} (ok : FrOk n es) {l : List Nat} {best x : Nat} (h : IdlInv n es l best) (hc : Sbs x (comM n (prefM n es)) → ¬ pcn best 10 < pcn x 10) : IdlInv n es (l ++ [x]) best := by
  refine ⟨h.1, h.2.1, h.2.2.1, fun hm => ?_⟩
  rcases List.mem_append.1 hm with hm | hm
  · exact h.2.2.2 hm
  · have e : idlM n es = x := by simpa using hm
    refine Classical.byContradiction fun hne => ?_
    have h1 := pcn10 ok.n10 (idl_max ok h.1 h.2.1 h.2.2.1) h.1 (idl_lt n es) hne
    have h2 := hc (by rw [← e]; exact idl_sub n es)
    rw [e] at h1
    exact h2 h1
theorem IdlInv.fin {n : Nat} {es : List (Nat × Nat)} (ok : FrOk n es) {best : Nat} (h : IdlInv n es (allM n (goodB n es)) best) : best = idlM n es :=
  h.2.2.2 (allM_mem.2 ⟨idl_lt n es, (goodB_iff ok (idl_lt n es)).2 (idl_good ok)⟩)
end Go.Proofs.Yteejfjgofpolkaa
