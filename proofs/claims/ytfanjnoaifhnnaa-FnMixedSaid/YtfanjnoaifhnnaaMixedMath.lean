/- The plain law of mixes: two mixes do what their composition does, mixed rows are seals, and the product of a column changes by the seal of the sum of the keys. No program. -/
import Derived.Test.YtfanjnoaifhnnaaMixS
import Derived.Test.YtfanjnoaifhnnaaCompose
import Derived.Test.YtfanjnoaifhnnaaJoined
namespace Go.Proofs.Ytfanjnoaifhnnaa
set_option linter.unusedVariables false
open Go.RowKit
structure OrdP (n : Nat) (os : List Int) : Prop where
  len : os.length = n
  has : ∀ i : Nat, i < n → (i : Int) ∈ os
structure KeyP (n : Nat) (kss : List (List Int)) : Prop where
  len : kss.length = n
  row : ∀ l ∈ kss, l.length = 3 ∧ ∀ z ∈ l, 0 ≤ z ∧ z ≤ 500000002
structure SeaP (n : Nat) (rss : List (List Int)) : Prop where
  len : rss.length = n
  row : ∀ l ∈ rss, l.length = 3 ∧ ∀ z ∈ l, sealB z = true
theorem OrdP.perm {n : Nat} {os : List Int} (h : OrdP n os) : os.Perm (iota 0 n) := perm_iota n os h.len h.has
theorem OrdP.at {n : Nat} {os : List Int} (h : OrdP n os) {i : Nat} (hi : i < n) : ∃ z : Nat, os[i]? = some (z : Int) ∧ z < n := by
  have e : os[i]? = some (os[i]'(by rw [h.len]; exact hi)) := List.getElem?_eq_getElem _
  have := iota_mem (h.perm.mem_iff.1 (mem_of_at e))
  obtain ⟨z, hz⟩ := Int.eq_ofNat_of_zero_le this.1
  exact ⟨z, by rw [e, hz], by omega⟩
theorem KeyP.at {n : Nat} {kss : List (List Int)} (h : KeyP n kss) {i : Nat} (hi : i < n) : ∃ K, kss[i]? = some K ∧ K.length = 3 ∧ ∀ z ∈ K, 0 ≤ z ∧ z ≤ 500000002 := by
  have e : kss[i]? = some (kss[i]'(by rw [h.len]; exact hi)) := List.getElem?_eq_getElem _
  exact ⟨_, e, h.row _ (mem_of_at e)⟩
theorem SeaP.at {n : Nat} {rss : List (List Int)} (h : SeaP n rss) {i : Nat} (hi : i < n) : ∃ R, rss[i]? = some R ∧ R.length = 3 ∧ ∀ z ∈ R, sealB z = true := by
  have e : rss[i]? = some (rss[i]'(by rw [h.len]; exact hi)) := List.getElem?_eq_getElem _
  exact ⟨_, e, h.row _ (mem_of_at e)⟩
theorem mixB_mk {n : Nat} {os : List Int} {kss : List (List Int)} (h12 : n ≤ 12) (ho : OrdP n os) (hk : KeyP n kss) : mixB os kss n = true := mixB_true.2 ⟨h12, ho.len, hk.len, ho.has, hk.row⟩
theorem mixS_mk {n : Nat} {rss : List (List Int)} {os : List Int} {kss : List (List Int)} (h12 : n ≤ 12) (hr : SeaP n rss) (ho : OrdP n os) (hk : KeyP n kss) : mixSB rss os kss = true ∧ mixV rss os kss = mrows rss kss os n := by
  have h1 : mixSB rss os kss = true := by
    unfold mixSB
    rw [hr.len, mixB_mk h12 ho hk, Bool.true_and]
    exact List.all_eq_true.2 fun l hl => allB_true.2 ⟨by rw [(hr.row l hl).1]; rfl, (hr.row l hl).2⟩
  exact ⟨h1, by unfold mixV; rw [h1, hr.len]; rfl⟩
theorem cmp_mk {n : Nat} {os os2 : List Int} {kss kss2 : List (List Int)} (h12 : n ≤ 12) (ho : OrdP n os) (hk : KeyP n kss) (ho2 : OrdP n os2) (hk2 : KeyP n kss2) :
    cmpB os kss os2 kss2 = true ∧ cmp1 os kss os2 kss2 = coneL os os2 n ∧ cmp2 os kss os2 kss2 = callL kss kss2 os2 n := by
  have h1 : cmpB os kss os2 kss2 = true := by unfold cmpB; rw [ho.len, mixB_mk h12 ho hk, mixB_mk h12 ho2 hk2]; rfl
  exact ⟨h1, by unfold cmp1; rw [h1, ho.len]; rfl, by unfold cmp2; rw [h1, ho.len]; rfl⟩
theorem seal_mul {x : Int} {e : Nat} (h : sealB x = true) : sealB (mm x (pw 9 e)) = true := by
  have h1 : pw x 500000003 = 1 := by
    simp only [sealB, Bool.and_eq_true] at h
    simpa using h.2
  have h2 : pw (mm x (pw 9 e)) 500000003 = 1 := by
    rw [pw_mul, h1, pw_pow, Nat.mul_comm, ← pw_pow, order9, pw_one]; decide
  have h3 := order_pos h2 (mm_lo _ _)
  have h4 := mm_hi x (pw 9 e)
  simp [sealB, inR_true.2 ⟨h3, show mm x (pw 9 e) ≤ 1000000006 by omega⟩, h2]
theorem mrow_len (R K : List Int) (c : Nat) : (mrow R K c).length = c := by simp [mrow]
theorem mrow_at {R K : List Int} {c j : Nat} (hj : j < c) : (mrow R K c)[j]? = some (mm (R.getD j 0) (pw 9 (K.getD j 0).toNat)) := by simp [mrow, hj]
theorem crow_at {K1 K2 : List Int} {c j : Nat} (hj : j < c) : (crow K1 K2 c)[j]? = some ((K1.getD j 0 + K2.getD j 0).tmod 500000003) := by simp [crow, hj]
theorem getD_of {α : Type} {l : List α} {j : Nat} {x d : α} (h : l[j]? = some x) : l.getD j d = x := by rw [List.getD_eq_getElem?_getD, h]; rfl
theorem mrow_seal {R K : List Int} (hl : R.length = 3) (hR : ∀ z ∈ R, sealB z = true) : ∀ z ∈ mrow R K 3, sealB z = true := by
  intro z hz
  unfold mrow at hz
  obtain ⟨j, hj, rfl⟩ := List.mem_map.1 hz
  have hj := List.mem_range.1 hj
  have e : R[j]? = some (R[j]'(by omega)) := List.getElem?_eq_getElem _
  rw [getD_of e]
  exact seal_mul (hR _ (mem_of_at e))
theorem mrows_len (rss kss : List (List Int)) (os : List Int) (n : Nat) : (mrows rss kss os n).length = n := by simp [mrows]
theorem mrows_at {rss kss : List (List Int)} {os : List Int} {n i z : Nat} {R K : List Int} (hi : i < n) (hz : os[i]? = some (z : Int)) (hR : rss[z]? = some R) (hK : kss[i]? = some K) : (mrows rss kss os n)[i]? = some (mrow R K 3) := by
  unfold mrows
  rw [List.getElem?_map, List.getElem?_range hi]
  simp [List.getD_eq_getElem?_getD, hz, hR, hK]
theorem coneL_at {os os2 : List Int} {n i z : Nat} {o : Int} (hi : i < n) (hz : os2[i]? = some (z : Int)) (ho : os[z]? = some o) : (coneL os os2 n)[i]? = some o := by
  unfold coneL
  rw [List.getElem?_map, List.getElem?_range hi]
  simp [List.getD_eq_getElem?_getD, hz, ho]
theorem callL_at {kss kss2 : List (List Int)} {os2 : List Int} {n i z : Nat} {K1 K2 : List Int} (hi : i < n) (hz : os2[i]? = some (z : Int)) (h1 : kss[z]? = some K1) (h2 : kss2[i]? = some K2) : (callL kss kss2 os2 n)[i]? = some (crow K1 K2 3) := by
  unfold callL
  rw [List.getElem?_map, List.getElem?_range hi]
  simp [List.getD_eq_getElem?_getD, hz, h1, h2]
theorem SeaP.mix {n : Nat} {rss kss : List (List Int)} {os : List Int} (hr : SeaP n rss) (ho : OrdP n os) (hk : KeyP n kss) : SeaP n (mrows rss kss os n) := by
  refine ⟨mrows_len _ _ _ _, fun l hl => ?_⟩
  obtain ⟨i, hi, rfl⟩ := List.getElem_of_mem hl
  rw [mrows_len] at hi
  obtain ⟨z, hz, hzn⟩ := ho.at hi
  obtain ⟨R, hR, l3, hs⟩ := hr.at hzn
  obtain ⟨K, hK, k3, _⟩ := hk.at hi
  have e := mrows_at hi hz hR hK
  have e2 := List.getElem?_eq_getElem (l := mrows rss kss os n) (i := i) (by rw [mrows_len]; exact hi)
  rw [e] at e2
  injection e2 with e2
  rw [← e2]
  exact ⟨mrow_len _ _ _, mrow_seal l3 hs⟩
theorem OrdP.comp {n : Nat} {os os2 : List Int} (h : OrdP n os) (h2 : OrdP n os2) : OrdP n (coneL os os2 n) := by
  refine ⟨by simp [coneL], fun i hi => ?_⟩
  obtain ⟨j, hj, ej⟩ := List.getElem_of_mem (h.has i hi)
  rw [h.len] at hj
  obtain ⟨t, ht, et⟩ := List.getElem_of_mem (h2.has j hj)
  rw [h2.len] at ht
  exact mem_of_at (coneL_at ht (z := j) (by rw [← et]; exact List.getElem?_eq_getElem _) (by rw [← ej]; exact List.getElem?_eq_getElem _))
theorem KeyP.comp {n : Nat} {kss kss2 : List (List Int)} {os2 : List Int} (h : KeyP n kss) (h2 : KeyP n kss2) (ho : OrdP n os2) : KeyP n (callL kss kss2 os2 n) := by
  refine ⟨by simp [callL], fun l hl => ?_⟩
  have cl : (callL kss kss2 os2 n).length = n := by simp [callL]
  obtain ⟨i, hi, rfl⟩ := List.getElem_of_mem hl
  rw [cl] at hi
  obtain ⟨z, hz, hzn⟩ := ho.at hi
  obtain ⟨K1, hK1, k3, b1⟩ := h.at hzn
  obtain ⟨K2, hK2, k4, b2⟩ := h2.at hi
  have e := callL_at hi hz hK1 hK2
  have e2 := List.getElem?_eq_getElem (l := callL kss kss2 os2 n) (i := i) (by rw [cl]; exact hi)
  rw [e] at e2
  injection e2 with e2
  rw [← e2]
  refine ⟨by simp [crow], fun y hy => ?_⟩
  unfold crow at hy
  obtain ⟨j, hj, rfl⟩ := List.mem_map.1 hy
  have hj := List.mem_range.1 hj
  have e1 : K1[j]? = some (K1[j]'(by omega)) := List.getElem?_eq_getElem _
  have e3 : K2[j]? = some (K2[j]'(by omega)) := List.getElem?_eq_getElem _
  rw [getD_of e1, getD_of e3]
  have q1 := b1 _ (mem_of_at e1)
  have q2 := b2 _ (mem_of_at e3)
  rw [Int.tmod_eq_emod_of_nonneg (by omega)]
  have := Int.emod_nonneg (K1[j]'(by omega) + K2[j]'(by omega)) (show (500000003 : Int) ≠ 0 by omega)
  have := Int.emod_lt_of_pos (K1[j]'(by omega) + K2[j]'(by omega)) (show (0 : Int) < 500000003 by omega)
  omega
theorem mrow_twice {R K1 K2 : List Int} (h1 : K1.length = 3) (h2 : K2.length = 3) (b1 : ∀ z ∈ K1, 0 ≤ z ∧ z ≤ 500000002) (b2 : ∀ z ∈ K2, 0 ≤ z ∧ z ≤ 500000002) : mrow (mrow R K1 3) K2 3 = mrow R (crow K1 K2 3) 3 := by
  apply List.ext_getElem? ; intro j
  rcases Nat.lt_or_ge j 3 with hj | hj
  · rw [mrow_at hj, mrow_at hj, getD_of (mrow_at hj), getD_of (crow_at hj)]
    have e1 : K1[j]? = some (K1[j]'(by omega)) := List.getElem?_eq_getElem _
    have e3 : K2[j]? = some (K2[j]'(by omega)) := List.getElem?_eq_getElem _
    rw [getD_of e1, getD_of e3]
    obtain ⟨a, ha⟩ := Int.eq_ofNat_of_zero_le (b1 _ (mem_of_at e1)).1
    obtain ⟨b, hb⟩ := Int.eq_ofNat_of_zero_le (b2 _ (mem_of_at e3)).1
    rw [ha, hb, Int.tmod_eq_emod_of_nonneg (by omega)]
    have e5 : ((a : Int) + b) % 500000003 = (((a + b) % 500000003 : Nat) : Int) := by rw [Int.natCast_emod, Int.natCast_add]; rfl
    rw [e5]
    simp only [Int.toNat_natCast]
    rw [pw_mod order9, pw_add, mm_assoc]
  · rw [List.getElem?_eq_none (by rw [mrow_len]; exact hj), List.getElem?_eq_none (by rw [mrow_len]; exact hj)]
/-- Two mixes do what their composition does. -/
theorem mixed_twice {n : Nat} {rss kss kss2 : List (List Int)} {os os2 : List Int} (hr : SeaP n rss) (ho : OrdP n os) (hk : KeyP n kss) (ho2 : OrdP n os2) (hk2 : KeyP n kss2) :
    mrows (mrows rss kss os n) kss2 os2 n = mrows rss (callL kss kss2 os2 n) (coneL os os2 n) n := by
  apply List.ext_getElem? ; intro i
  rcases Nat.lt_or_ge i n with hi | hi
  · obtain ⟨j, hj, hjn⟩ := ho2.at hi
    obtain ⟨z, hz, hzn⟩ := ho.at hjn
    obtain ⟨R, hR, l3, _⟩ := hr.at hzn
    obtain ⟨K1, hK1, k3, b1⟩ := hk.at hjn
    obtain ⟨K2, hK2, k4, b2⟩ := hk2.at hi
    rw [mrows_at hi hj (mrows_at hjn hz hR hK1) hK2, mrows_at hi (coneL_at hi hj hz) hR (callL_at hi hj hK1 hK2), mrow_twice k3 k4 b1 b2]
  · rw [List.getElem?_eq_none (by rw [mrows_len]; exact hi), List.getElem?_eq_none (by rw [mrows_len]; exact hi)]

/-! ### the product of a column -/
def colL (rss : List (List Int)) (k n : Nat) : List Int := (List.range n).map fun i => (rss.getD i []).getD k 0
theorem colL_succ {rss : List (List Int)} {k i : Nat} {R : List Int} {x : Int} (hR : rss[i]? = some R) (hx : R[k]? = some x) : colL rss k (i + 1) = colL rss k i ++ [x] := by
  unfold colL
  rw [List.range_succ, List.map_append]
  simp [List.getD_eq_getElem?_getD, hR, hx]
theorem colL_len (rss : List (List Int)) (k n : Nat) : (colL rss k n).length = n := by simp [colL]
def prodS (o : Int) (l : List Int) : Int := l.foldl (fun o s => mm o s) o
def sumK (o : Int) (l : List Int) : Int := l.foldl (fun o k => (o + k) % 500000003) o
theorem mm_pw1 (o s : Int) : mm o (pw s 1) = mm o s := by
  unfold mm pw
  rw [Int.pow_succ, Int.pow_zero, Int.one_mul, mul_emod_r]
theorem joinS_ones (l : List Int) : joinS l (List.replicate l.length 1) = prodS 1 l := by
  have : ∀ (l : List Int) (o : Int), (l.zip (List.replicate l.length (1 : Int))).foldl joinSS o = prodS o l := by
    intro l
    induction l with
    | nil => intro o; rfl
    | cons s t ih =>
      intro o
      simp only [List.length_cons, List.replicate_succ, List.zip_cons_cons, List.foldl_cons]
      rw [ih]
      show prodS (mm o (pw s 1)) t = prodS (mm o s) t
      rw [mm_pw1]
  exact this l 1
theorem joinK_ones (l : List Int) : joinK l (List.replicate l.length 1) = sumK 0 l := by
  have : ∀ (l : List Int) (o : Int), (l.zip (List.replicate l.length (1 : Int))).foldl joinKS o = sumK o l := by
    intro l
    induction l with
    | nil => intro o; rfl
    | cons s t ih =>
      intro o
      simp only [List.length_cons, List.replicate_succ, List.zip_cons_cons, List.foldl_cons]
      rw [ih]
      show sumK ((o + s * 1) % 500000003) t = sumK ((o + s) % 500000003) t
      rw [Int.mul_one]
  exact this l 0
theorem prod_zip : ∀ (bs as_ : List Int) (P S : Int), bs.length = as_.length → 0 ≤ S → (∀ a ∈ as_, 0 ≤ a) →
    prodS (mm P (pw 9 S.toNat)) (List.zipWith (fun b a => mm b (pw 9 a.toNat)) bs as_) = mm (prodS P bs) (pw 9 (sumK S as_).toNat) := by
  intro bs
  induction bs with
  | nil =>
    intro as_ P S hl hS ha
    have : as_ = [] := List.eq_nil_of_length_eq_zero hl.symm
    subst this
    rfl
  | cons b bs ih =>
    intro as_ P S hl hS ha
    cases as_ with
    | nil => simp at hl
    | cons a as_ =>
      simp only [List.length_cons, Nat.add_right_cancel_iff] at hl
      have a0 := ha a (List.mem_cons_self ..)
      obtain ⟨S, rfl⟩ := Int.eq_ofNat_of_zero_le hS
      obtain ⟨a, rfl⟩ := Int.eq_ofNat_of_zero_le a0
      have e5 : ((S : Int) + a) % 500000003 = (((S + a) % 500000003 : Nat) : Int) := by rw [Int.natCast_emod, Int.natCast_add]; rfl
      have e6 : mm (mm P (pw 9 S)) (mm b (pw 9 a)) = mm (mm P b) (pw 9 ((S + a) % 500000003)) := by rw [mm4, ← pw_add, pw_mod order9]
      have := ih as_ (mm P b) (((S + a) % 500000003 : Nat) : Int) hl (by omega) (fun z hz => ha z (List.mem_cons_of_mem _ hz))
      simp only [Int.toNat_natCast] at this
      simp only [List.zipWith_cons_cons, Int.toNat_natCast]
      show prodS (mm (mm P (pw 9 S)) (mm b (pw 9 a))) _ = mm (prodS (mm P b) bs) (pw 9 (sumK (((S : Int) + a) % 500000003) as_).toNat)
      rw [e5, e6, this]
theorem prod_perm {l l' : List Int} (h : l.Perm l') (o : Int) : prodS o l = prodS o l' := by
  unfold prodS
  exact h.foldl_eq' (fun x _ y _ z => by show mm (mm z x) y = mm (mm z y) x; rw [mm_assoc, mm_comm x y, ← mm_assoc]) o
theorem sumK_bd (l : List Int) : 0 ≤ sumK 0 l ∧ sumK 0 l < 500000003 := foldl_inv (fun o => 0 ≤ o ∧ o < 500000003) (fun o z => ⟨Int.emod_nonneg _ (by decide), Int.emod_lt_of_pos _ (by decide)⟩) _ _ (by decide)
theorem seal_bd {x : Int} (h : sealB x = true) : 1 ≤ x ∧ x ≤ 1000000006 := sealB_true h
theorem seal_mm {x y : Int} (h : sealB x = true) (k : sealB y = true) : sealB (mm x y) = true := by
  have h1 : pw x 500000003 = 1 := by simp only [sealB, Bool.and_eq_true] at h; simpa using h.2
  have k1 : pw y 500000003 = 1 := by simp only [sealB, Bool.and_eq_true] at k; simpa using k.2
  have h2 : pw (mm x y) 500000003 = 1 := by rw [pw_mul, h1, k1]; decide
  have h3 := order_pos h2 (mm_lo _ _)
  have h4 := mm_hi x y
  simp [sealB, inR_true.2 ⟨h3, show mm x y ≤ 1000000006 by omega⟩, h2]
theorem prod_seal {l : List Int} (hl : ∀ z ∈ l, sealB z = true) : sealB (prodS 1 l) = true := by
  have one : sealB 1 = true := by simp [sealB, inR_true.2, pw_one]
  have : ∀ (l : List Int) (o : Int), sealB o = true → (∀ z ∈ l, sealB z = true) → sealB (prodS o l) = true := by
    intro l
    induction l with
    | nil => intro o h _; exact h
    | cons z t ih => intro o h hz; exact ih _ (seal_mm h (hz z (List.mem_cons_self ..))) (fun y hy => hz y (List.mem_cons_of_mem _ hy))
  exact this l 1 one hl
/-- The product of a mixed column. -/
theorem mixed_prod {n k : Nat} {rss kss : List (List Int)} {os : List Int} (hk3 : k < 3) (hr : SeaP n rss) (ho : OrdP n os) (hk : KeyP n kss) :
    mm (prodS 1 (colL rss k n)) (pw 9 (sumK 0 (colL kss k n)).toNat) = prodS 1 (colL (mrows rss kss os n) k n) := by
  have e1 : colL (mrows rss kss os n) k n = List.zipWith (fun b a => mm b (pw 9 a.toNat)) (os.map fun z => (rss.getD z.toNat []).getD k 0) (colL kss k n) := by
    apply List.ext_getElem? ; intro i
    rcases Nat.lt_or_ge i n with hi | hi
    · obtain ⟨z, hz, hzn⟩ := ho.at hi
      obtain ⟨R, hR, l3, _⟩ := hr.at hzn
      obtain ⟨K, hK, k3, _⟩ := hk.at hi
      unfold colL
      rw [List.getElem?_map, List.getElem?_range hi, List.getElem?_zipWith, List.getElem?_map, List.getElem?_map, List.getElem?_range hi, hz]
      simp only [Option.map_some]
      rw [getD_of (mrows_at hi hz hR hK), getD_of (mrow_at hk3), getD_of hK]
      simp only [Int.toNat_natCast]
      rw [getD_of hR]
    · rw [List.getElem?_eq_none (by rw [colL_len]; exact hi), List.getElem?_eq_none (by rw [List.length_zipWith, colL_len]; omega)]
  have e2 : (os.map fun z => (rss.getD z.toNat []).getD k 0).Perm (colL rss k n) := by
    have := ho.perm.map fun z : Int => (rss.getD z.toNat []).getD k 0
    refine this.trans ?_
    unfold iota colL
    rw [List.map_map]
    exact List.Perm.of_eq (List.map_congr_left fun i _ => by simp)
  have kb : ∀ a ∈ colL kss k n, 0 ≤ a := by
    intro a ha
    unfold colL at ha
    obtain ⟨i, hi, rfl⟩ := List.mem_map.1 ha
    obtain ⟨K, hK, k3, kz⟩ := hk.at (List.mem_range.1 hi)
    rw [getD_of hK]
    have e : K[k]? = some (K[k]'(by omega)) := List.getElem?_eq_getElem _
    rw [getD_of e]
    exact (kz _ (mem_of_at e)).1
  have h := prod_zip (os.map fun z => (rss.getD z.toNat []).getD k 0) (colL kss k n) 1 0 (by rw [List.length_map, ho.len, colL_len]) (by decide) kb
  rw [← e1, prod_perm e2 1] at h
  rw [← h]
  have : mm 1 (pw 9 (0 : Int).toNat) = 1 := by rw [mm_pw_one]; exact pw_zero 9
  rw [this]
theorem col_seal {n k : Nat} {rss : List (List Int)} (hk : k < 3) (h : SeaP n rss) : ∀ z ∈ colL rss k n, sealB z = true := by
  intro z hz
  unfold colL at hz
  obtain ⟨i, hi, rfl⟩ := List.mem_map.1 hz
  obtain ⟨R, hR, l3, hs⟩ := h.at (List.mem_range.1 hi)
  rw [getD_of hR]
  have e : R[k]? = some (R[k]'(by omega)) := List.getElem?_eq_getElem _
  rw [getD_of e]
  exact hs _ (mem_of_at e)
theorem col_key {n k : Nat} {kss : List (List Int)} (hk : k < 3) (h : KeyP n kss) : ∀ z ∈ colL kss k n, expB z = true := by
  intro z hz
  unfold colL at hz
  obtain ⟨i, hi, rfl⟩ := List.mem_map.1 hz
  obtain ⟨R, hR, l3, hs⟩ := h.at (List.mem_range.1 hi)
  rw [getD_of hR]
  have e : R[k]? = some (R[k]'(by omega)) := List.getElem?_eq_getElem _
  rw [getD_of e]
  exact inR_true.2 (hs _ (mem_of_at e))
theorem ones_w (n : Nat) : allB (List.replicate n (1 : Int)) (n : Int) weightB = true := allB_true.2 ⟨by simp, fun z hz => by rw [(List.mem_replicate.1 hz).2]; exact inR_true.2 (by omega)⟩
theorem join_s {l : List Int} {n : Nat} (hl : l.length = n) (h12 : n ≤ 12) (hs : ∀ z ∈ l, sealB z = true) : joinB l (List.replicate n 1) sealB = true ∧ joinSV l (List.replicate n 1) = prodS 1 l := by
  have h := joinB_yes hl h12 (List.all_eq_true.2 hs) (ones_w n)
  exact ⟨h, by rw [(joinSV_yes h).2]; subst hl; exact joinS_ones l⟩
theorem join_k {l : List Int} {n : Nat} (hl : l.length = n) (h12 : n ≤ 12) (hs : ∀ z ∈ l, expB z = true) : joinB l (List.replicate n 1) expB = true ∧ joinKV l (List.replicate n 1) = sumK 0 l := by
  have h := joinB_yes hl h12 (List.all_eq_true.2 hs) (ones_w n)
  exact ⟨h, by rw [(joinKV_yes h).2]; subst hl; exact joinK_ones l⟩
/-- What the law asks of a column. -/
theorem mixed_col {n k : Nat} {rss kss : List (List Int)} {os : List Int} (h12 : n ≤ 12) (hk3 : k < 3) (hr : SeaP n rss) (ho : OrdP n os) (hk : KeyP n kss) :
    joinB [prodS 1 (colL rss k n), sealO 0 (sumK 0 (colL kss k n))] [1, 1] sealB = true ∧ joinSV [prodS 1 (colL rss k n), sealO 0 (sumK 0 (colL kss k n))] [1, 1] = prodS 1 (colL (mrows rss kss os n) k n) := by
  have h1 := prod_seal (col_seal hk3 hr)
  have h := join_s (l := [prodS 1 (colL rss k n), sealO 0 (sumK 0 (colL kss k n))]) (n := 2) rfl (by omega) (by
    intro z hz
    simp only [List.mem_cons, List.not_mem_nil, or_false] at hz
    rcases hz with rfl | rfl
    · exact h1
    · exact sealO_seal _ _)
  refine ⟨h.1, h.2.trans ?_⟩
  rw [← mixed_prod hk3 hr ho hk]
  show mm (mm 1 (prodS 1 (colL rss k n))) (sealO 0 (sumK 0 (colL kss k n))) = _
  have b := seal_bd h1
  rw [mm_one (by omega) (by omega)]
  congr 1
  unfold sealO
  rw [show (0 : Int).toNat = 0 from rfl, pw_zero, mm_pw_one]
end Go.Proofs.Ytfanjnoaifhnnaa
