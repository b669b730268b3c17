/- The grounded set is the least complete one; the lists of sets; stable and preferred sets. -/
import Derived.Test.YteejfjgofpolkaaStand
import Derived.Test.YteejfjgofpolkaaSetB
import Derived.Test.YteejfjgofpolkaaStab
namespace Go.Proofs.Yteejfjgofpolkaa
set_option linter.unusedVariables false
set_option linter.unusedSimpArgs false
set_option maxRecDepth 100000
open Go.RowKit Go.Deep
section
variable {n : Nat} {es : List (Nat × Nat)}
theorem grd_bit (a : Nat) : (grdM n es).testBit a = true ↔ a < n ∧ 0 < rndF n es a := by
  unfold grdM accM
  rw [mk_bit, Bool.and_eq_true, decide_eq_true_eq, decide_eq_true_eq]
theorem grd_lt : grdM n es < 2 ^ n := mk_lt _ _
theorem grd_comp (ok : FrOk n es) : compB n es (grdM n es) = true := by
  have R := rndF_fin ok
  have src : ∀ {a b}, (b, a) ∈ es → b < n ∧ a < n := fun h => ok.inn _ h
  refine (compB_iff ok grd_lt).2 ⟨⟨fun a b hab ha hb => ?_, fun a ha b hba => ?_⟩, fun a ha hd => ?_⟩
  · obtain ⟨a1, a2⟩ := (grd_bit a).1 ha
    obtain ⟨b1, b2⟩ := (grd_bit b).1 hb
    have := ((R.pos b b1 b2).1 a ((attM_bit es b a).2 hab)).1
    omega
  · obtain ⟨a1, a2⟩ := (grd_bit a).1 ha
    have hb := (src hba).1
    have h1 := ((R.pos a a1 a2).1 b ((attM_bit es a b).2 hba)).1
    obtain ⟨⟨c, hc, e⟩, _⟩ := R.neg b hb h1
    have hcb := (attM_bit es b c).1 hc
    exact ⟨c, hcb, (grd_bit c).2 ⟨(src hcb).1, by omega⟩⟩
  · refine (grd_bit a).2 ⟨ha, ?_⟩
    have neg : ∀ b, (b, a) ∈ es → rndF n es b < 0 := fun b hba => by
      obtain ⟨c, hcb, hc⟩ := hd b hba
      obtain ⟨c1, c2⟩ := (grd_bit c).1 hc
      have hb := (src hba).1
      rcases Int.lt_trichotomy (rndF n es b) 0 with h | h | h
      · exact h
      · exact absurd c2 ((R.zer b hb h).2 c ((attM_bit es b c).2 hcb))
      · have := ((R.pos b hb h).1 c ((attM_bit es b c).2 hcb)).1
        omega
    rcases Int.lt_trichotomy (rndF n es a) 0 with h | h | h
    · obtain ⟨⟨b, hb, e⟩, _⟩ := R.neg a ha h
      have := neg b ((attM_bit es a b).1 hb)
      omega
    · obtain ⟨⟨b, hb, e⟩, _⟩ := R.zer a ha h
      exact absurd (neg b ((attM_bit es a b).1 hb)) e
    · exact h
theorem grd_least (ok : FrOk n es) {m : Nat} (hm : m < 2 ^ n) (h : compB n es m = true) : Sbs (grdM n es) m := by
  have R := rndF_fin ok
  have hc := (compB_iff ok hm).1 h
  have key : ∀ (k a : Nat), (rndF n es a).toNat ≤ k → a < n → 0 < rndF n es a → m.testBit a = true := by
    intro k
    induction k with
    | zero => intro a h1 _ h2; omega
    | succ k ih =>
      intro a h1 ha h2
      refine hc.2 a ha fun b hba => ?_
      have hb := (ok.inn _ hba).1
      obtain ⟨n1, n2⟩ := (R.pos a ha h2).1 b ((attM_bit es a b).2 hba)
      obtain ⟨⟨c, hcb, e⟩, _⟩ := R.neg b hb n1
      have hcb' := (attM_bit es b c).1 hcb
      exact ⟨c, hcb', ih c (by omega) (ok.inn _ hcb').1 (by omega)⟩
  exact fun a ha => by
    obtain ⟨h1, h2⟩ := (grd_bit a).1 ha
    exact key _ a (Nat.le_refl _) h1 h2
theorem comp_good (ok : FrOk n es) {m : Nat} (hm : m < 2 ^ n) (h : compB n es m = true) : goodB n es m = true := (goodB_iff ok hm).2 ((compB_iff ok hm).1 h).1
theorem comp_free {m : Nat} (h : compB n es m = true) : freeB es m = true := by unfold compB at h; rw [Bool.and_eq_true] at h; exact h.1
theorem comp_dfd {m : Nat} (h : compB n es m = true) : dfdM n es m = m := by unfold compB at h; rw [Bool.and_eq_true, decide_eq_true_eq] at h; exact h.2
theorem pref_comp (ok : FrOk n es) {m : Nat} (h : m ∈ prefM n es) : compB n es m = true := by
  obtain ⟨hm, h2⟩ := allM_mem.1 h
  have := prefB_iff.1 h2
  exact (compB_iff ok hm).2 ⟨this.1, max_comp hm this⟩
theorem pref_anti {m o : Nat} (h : m ∈ prefM n es) (k : o ∈ prefM n es) (hs : Sbs m o) : m = o := by
  obtain ⟨hm, h2⟩ := allM_mem.1 h
  obtain ⟨ho, k2⟩ := allM_mem.1 k
  exact ((prefB_iff.1 h2).2 o ho (prefB_iff.1 k2).1 hs).symm
/-- Stable sets are preferred. -/
theorem stab_pref (ok : FrOk n es) {m : Nat} (hm : m < 2 ^ n) (h : stabB n es m = true) : m ∈ prefM n es := by
  unfold stabB at h
  rw [Bool.and_eq_true, decide_eq_true_eq] at h
  obtain ⟨h1, h2⟩ := h
  have fr := (freeB_iff (es := es) m).1 h1
  have all : ∀ a, a < n → m.testBit a = true ∨ ∃ b, (b, a) ∈ es ∧ m.testBit b = true := fun a ha => by
    have : (hitM es m ||| m).testBit a = true := by rw [h2, Nat.testBit_two_pow_sub_one]; simpa using ha
    rw [Nat.testBit_or, Bool.or_eq_true, hitM_bit] at this
    exact this.symm
  refine allM_mem.2 ⟨hm, prefB_iff.2 ⟨⟨fr, fun a ha b hba => ?_⟩, fun p hp hg hs => ?_⟩⟩
  · rcases all b (ok.inn _ hba).1 with h | ⟨c, hc, hcm⟩
    · exact absurd ha (fun ha => fr b a hba h ha)
    · exact ⟨c, hc, hcm⟩
  · refine (Nat.eq_of_testBit_eq fun i => ?_)
    rw [Bool.eq_iff_iff]
    refine ⟨fun hi => ?_, hs i⟩
    rcases all i (bit_lt hp hi) with h | ⟨c, hc, hcm⟩
    · exact h
    · exact absurd hi (fun hi => hg.1 c i hc (hs c hcm) hi)
theorem stab_iff {m : Nat} (hm : m < 2 ^ n) (ok : FrOk n es) (hf : freeB es m = true) : stabB n es m = true ↔ ∀ x, x < n → (hitM es m).testBit x = true ∨ m.testBit x = true := by
  unfold stabB
  rw [hf, Bool.true_and, decide_eq_true_eq]
  have hl : hitM es m < 2 ^ n := hitM_lt (fun p hp => (ok.inn p hp).2) m
  constructor
  · intro h x hx
    have : (hitM es m ||| m).testBit x = true := by rw [h, Nat.testBit_two_pow_sub_one]; simpa using hx
    rwa [Nat.testBit_or, Bool.or_eq_true] at this
  · intro h
    refine mask_eq (Nat.or_lt_two_pow hl hm) (by have := Nat.two_pow_pos n; omega) fun i hi => ?_
    rw [Nat.testBit_or, Nat.testBit_two_pow_sub_one, decide_eq_true hi, Bool.or_eq_true]
    exact h i hi
theorem good_pref (ok : FrOk n es) {m : Nat} (hm : m < 2 ^ n) (h : goodB n es m = true) : ∃ o ∈ prefM n es, Sbs m o := by
  obtain ⟨o, ho, hs, hmax⟩ := goo_ext (n := n) (es := es) (2 ^ n) m (Nat.sub_le _ _) hm ((goodB_iff ok hm).1 h)
  exact ⟨o, allM_mem.2 ⟨ho, prefB_iff.2 hmax⟩, hs⟩
end
/-- An entry of a list of sets. -/
theorem set_at {L : List Nat} {i : Nat} {z : List Int} (h : (srtL (bitsL L))[i]? = some z) : ∃ m, m ∈ L ∧ z = bitsTo m 10 := by
  have := (srtL_perm _).subset (List.mem_of_getElem? h)
  obtain ⟨m, h1, h2⟩ := List.mem_map.1 this
  exact ⟨m, h1, h2.symm⟩
theorem set_any {L : List Nat} (hL : ∀ m ∈ L, m < 1024) {m : Nat} (hm : m < 1024) : ((srtL (bitsL L)).any fun z => decide (z = bitsTo m 10)) = decide (m ∈ L) := by
  rw [Bool.eq_iff_iff, List.any_eq_true, decide_eq_true_eq]
  constructor
  · rintro ⟨z, hz, e⟩
    rw [decide_eq_true_eq] at e
    subst e
    obtain ⟨o, h1, h2⟩ := List.mem_map.1 ((srtL_perm _).subset hz)
    rwa [bitsTo_inj hm (hL o h1) h2.symm]
  · intro h
    exact ⟨bitsTo m 10, (srtL_perm _).mem_iff.2 (List.mem_map.2 ⟨m, h, rfl⟩), by simp⟩
theorem set_nodup {n : Nat} (n10 : n ≤ 10) (p : Nat → Bool) : (srtL (bitsL (allM n p))).Nodup := by
  rw [(srtL_perm _).nodup_iff]
  unfold bitsL
  refine List.pairwise_map.2 ((List.pairwise_iff_forall_sublist.2 fun {a b} hs => ?_))
  have hab := List.pairwise_iff_forall_sublist.1 (allM_nodup n p) hs
  exact fun e => hab (bitsTo_inj (allM_lt n10 (hs.subset (by simp))) (allM_lt n10 (hs.subset (by simp))) e)
theorem set_less {n : Nat} (n10 : n ≤ 10) (p : Nat → Bool) {i : Nat} {y z : List Int} (hy : (srtL (bitsL (allM n p)))[i]? = some y) (hz : (srtL (bitsL (allM n p)))[i + 1]? = some z) : cmpL y z < 0 := by
  obtain ⟨h1, rfl⟩ := List.getElem?_eq_some_iff.1 hy
  obtain ⟨h2, rfl⟩ := List.getElem?_eq_some_iff.1 hz
  have a := List.pairwise_iff_getElem.1 (srtL_asc (bitsL (allM n p))) i (i + 1) h1 h2 (by omega)
  have b := List.pairwise_iff_getElem.1 (set_nodup n10 p) i (i + 1) h1 h2 (by omega)
  rcases Int.lt_or_eq_of_le a with h | h
  · exact h
  · exact absurd (cmpL_eq h) b
theorem set_ne {n : Nat} (n10 : n ≤ 10) (p : Nat → Bool) {i k : Nat} {y z : List Int} (hy : (srtL (bitsL (allM n p)))[i]? = some y) (hz : (srtL (bitsL (allM n p)))[k]? = some z) (hne : i ≠ k) : y ≠ z := by
  obtain ⟨h1, rfl⟩ := List.getElem?_eq_some_iff.1 hy
  obtain ⟨h2, rfl⟩ := List.getElem?_eq_some_iff.1 hz
  have := List.pairwise_iff_getElem.1 (set_nodup n10 p)
  rcases Nat.lt_or_gt_of_ne hne with h | h
  · exact this i k h1 h2 h
  · exact fun e => this k i h2 h1 h e.symm
theorem grdSet_ok (n : Nat) (es : List (Nat × Nat)) (ok : FrOk n es) (A : Option Addr) (m c : Nat) (w : World) (h : Rws w A m c (es.map erow)) :
    Calls Try.prog 37 #[.agg #[.int .i64 n, .slice A m c]] w fun e w' => ∃ A' c', e = .returned (.tuple #[.slice A' (bitsTo (grdM n es) 10).length c', .bool true]) ∧ OwnI w' w.heap.size A' (bitsTo (grdM n es) 10).length c' (bitsTo (grdM n es) 10) ∧ Below w.heap.size w w' := by
  have b0 := bel_alloc w (.cells #[.int .i64 n, .slice A m c] 26)
  have C0 := Cs.new w [.int .i64 n, .slice A m c] 26
  have y0 := C0.cell 0 rfl
  have y1 := C0.cell 1 rfl
  have V := Lib.hid (validFrame_any n (es.map erow) A m c _ (h.below b0))
  rw [frB_of ok] at V
  have OK := Lib.hid ok
  have HC := Lib.hid C0
  have H := Lib.hid h
  have B0 := Lib.hid b0
  have gl := grdM_lt ok
  clear h C0 b0 ok
  go_enter Try.func37, Try.ntmps37
  go_wp2_with fail
  refine V.out.mono ?_
  rintro e w1 ⟨rfl, b1⟩
  have C1 := Lib.hid (HC.out.below b1)
  have z0 := C1.out.cell 0 rfl
  have z1 := C1.out.cell 1 rfl
  have B1 := Lib.hid (bel_trans B0.out b1)
  clear y0 y1 b1 V
  go_wp2_with fail
  refine (grounded_ok n es OK.out A m c _ (H.out.below B1.out)).mono ?_
  rintro e w2 ⟨F, hF, rfl, b2⟩
  rw [grdM_eq OK.out hF]
  obtain ⟨g, hg⟩ : ∃ g, grdM n es = g := ⟨_, rfl⟩
  rw [hg] at gl ⊢
  have HG := Lib.hid hg
  have B2 := Lib.hid (bel_trans B1.out b2)
  clear hg b2 hF z0 z1
  go_wp2_with fail
  refine (setOf_any g gl _).mono ?_
  rintro e w3 ⟨A3, c3, rfl, o3, u3⟩
  have O := Lib.hid (o3.mono (b2 := w.heap.size) B2.out.size)
  have B3 := Lib.hid (bel_trans B2.out u3)
  clear o3 u3
  go_wp2_with fail
  exact bodyPost_ret (v := .tuple #[.slice A3 (bitsTo g 10).length c3, .bool true]) (by simp [results, Try.results37, go_sem]) rfl ⟨A3, c3, by rw [HG.out], by rw [HG.out]; exact O.out, B3.out⟩
end Go.Proofs.Yteejfjgofpolkaa
