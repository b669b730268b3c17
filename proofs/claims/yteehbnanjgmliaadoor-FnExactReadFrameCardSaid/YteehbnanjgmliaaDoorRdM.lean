/- A frame's text, read back: what the text's bytes are; how it splits and cuts. -/
import Derived.Test.YteehbnanjgmliaaDoorFrT
import Derived.Lib.Split
import Derived.Lib.SplitLaws
namespace Go.Proofs.YteehbnanjgmliaaDoor
set_option linter.unusedVariables false
set_option linter.unusedSimpArgs false
set_option maxRecDepth 100000
open Go.RowKit
def dL (k : Nat) : List UInt8 := (decT k).data.toList
def wL (p : Nat × Nat) : List UInt8 := dL p.1 ++ 62 :: dL p.2
def fL (es : List (Nat × Nat)) : List UInt8 := es.flatMap fun p => 32 :: wL p
theorem foldl_bytes : ∀ (es : List (Nat × Nat)) (o : ByteArray), ((es.map erow).foldl frStep o).data.toList = o.data.toList ++ fL es
  | [], o => by simp [fL]
  | p :: es, o => by
    rw [List.map_cons, List.foldl_cons, foldl_bytes es]
    simp [fL, frStep, erow, wL, dL]
theorem frT_bytes (n : Nat) (es : List (Nat × Nat)) : (frT n (es.map erow)).data.toList = dL n ++ fL es := by
  unfold frT
  rw [foldl_bytes]
  rfl
theorem dL_small : ∀ k : Fin 11, (32 : UInt8) ∉ dL k.1 ∧ (62 : UInt8) ∉ dL k.1 := by decide
theorem dL_one : ∀ k : Fin 10, dL k.1 = [UInt8.ofNat (48 + k.1)] := by decide
theorem dL_at {k : Nat} (h : k ≤ 9) : dL k = [UInt8.ofNat (48 + k)] := dL_one ⟨k, by omega⟩
theorem wL_at {p : Nat × Nat} (h1 : p.1 ≤ 9) (h2 : p.2 ≤ 9) : wL p = [UInt8.ofNat (48 + p.1), 62, UInt8.ofNat (48 + p.2)] := by unfold wL; rw [dL_at h1, dL_at h2]; rfl
theorem wL_no {p : Nat × Nat} (h1 : p.1 ≤ 9) (h2 : p.2 ≤ 9) : (32 : UInt8) ∉ wL p := by
  unfold wL
  have a := (dL_small ⟨p.1, by omega⟩).1
  have b := (dL_small ⟨p.2, by omega⟩).1
  simp at a b ⊢
  exact ⟨a, b⟩
theorem fL_len : ∀ (es : List (Nat × Nat)), (∀ p ∈ es, p.1 ≤ 9 ∧ p.2 ≤ 9) → (fL es).length = 4 * es.length
  | [], _ => rfl
  | p :: es, h => by
    have hp := h p (by simp)
    rw [show fL (p :: es) = 32 :: wL p ++ fL es from by simp [fL]]
    rw [List.length_append, fL_len es (fun q hq => h q (by simp [hq])), wL_at hp.1 hp.2]
    simp; omega
theorem fL_at : ∀ (es : List (Nat × Nat)), (∀ p ∈ es, p.1 ≤ 9 ∧ p.2 ≤ 9) → ∀ (k : Nat) (p : Nat × Nat), es[k]? = some p → (fL es)[4 * k + 1]? = some (UInt8.ofNat (48 + p.1)) ∧ (fL es)[4 * k + 3]? = some (UInt8.ofNat (48 + p.2))
  | [], _, k, p, hk => by simp at hk
  | q :: es, h, 0, p, hk => by
    simp at hk
    subst hk
    have hp := h q (by simp)
    rw [show fL (q :: es) = 32 :: wL q ++ fL es from by simp [fL], wL_at hp.1 hp.2]
    exact ⟨rfl, rfl⟩
  | q :: es, h, k + 1, p, hk => by
    have hp := h q (by simp)
    have r := fL_at es (fun q hq => h q (by simp [hq])) k p (by simpa using hk)
    rw [show fL (q :: es) = 32 :: wL q ++ fL es from by simp [fL], wL_at hp.1 hp.2]
    rw [show 4 * (k + 1) + 1 = (4 * k + 1) + 4 by omega, show 4 * (k + 1) + 3 = (4 * k + 3) + 4 by omega]
    exact r
theorem FrOk.nine {n : Nat} {es : List (Nat × Nat)} (ok : FrOk n es) : ∀ p ∈ es, p.1 ≤ 9 ∧ p.2 ≤ 9 := fun p hp => by
  have := ok.inn p hp
  have := ok.n10
  omega
theorem FrOk.key {n : Nat} {es : List (Nat × Nat)} (ok : FrOk n es) : ∀ (k : Nat) (p : Nat × Nat), es[k]? = some p → k ≤ p.1 * 10 + p.2
  | 0, _, _ => Nat.zero_le _
  | k + 1, p, hp => by
    have hl := (List.getElem?_eq_some_iff.1 hp).1
    have hq : es[k]? = some es[k] := List.getElem?_eq_getElem (by omega)
    have r := FrOk.key ok k _ hq
    have l := ok.lt k _ _ hq hp
    have n1 := ok.nine _ (List.mem_of_getElem? hq)
    have n2 := ok.nine _ (List.mem_of_getElem? hp)
    unfold lt2 at l
    omega
theorem FrOk.short {n : Nat} {es : List (Nat × Nat)} (ok : FrOk n es) : es.length ≤ 100 := by
  rcases Nat.lt_or_ge 100 es.length with h | h
  · have hq : es[100]? = some es[100] := List.getElem?_eq_getElem h
    have := ok.key 100 _ hq
    have := ok.nine _ (List.mem_of_getElem? hq)
    omega
  · exact h
theorem size_list (s : ByteArray) : s.size = s.data.toList.length := by rw [← ByteArray.size_data]; simp
theorem dL_len (n : Nat) : (dL n).length = (decT n).size := (size_list _).symm
theorem frT_size {n : Nat} {es : List (Nat × Nat)} (ok : FrOk n es) : (frT n (es.map erow)).size = (decT n).size + 4 * es.length := by
  rw [size_list, frT_bytes, List.length_append, fL_len es ok.nine, dL_len]
theorem frT_short {n : Nat} {es : List (Nat × Nat)} (ok : FrOk n es) : (frT n (es.map erow)).size ≤ 402 := by
  have := frT_size ok
  have := decT_size n
  have := ok.short
  omega
theorem frT_at {n : Nat} {es : List (Nat × Nat)} (ok : FrOk n es) {k : Nat} {p : Nat × Nat} (h : es[k]? = some p) :
    (frT n (es.map erow)).data.toList[(decT n).size + 4 * k + 1]? = some (UInt8.ofNat (48 + p.1)) ∧ (frT n (es.map erow)).data.toList[(decT n).size + 4 * k + 3]? = some (UInt8.ofNat (48 + p.2)) := by
  have r := fL_at es ok.nine k p h
  rw [frT_bytes, ← dL_len]
  rw [List.getElem?_append_right (by omega), List.getElem?_append_right (by omega)]
  rw [show (dL n).length + 4 * k + 1 - (dL n).length = 4 * k + 1 by omega, show (dL n).length + 4 * k + 3 - (dL n).length = 4 * k + 3 by omega]
  exact r
/-! ### splitting -/
theorem occ_cons (d : UInt8) (l : List UInt8) (j : Nat) : Lib.occAt l [d] j = (l[j]? == some d) := by
  unfold Lib.occAt
  rcases Nat.lt_or_ge j l.length with h | h
  · rw [List.getElem?_eq_getElem h, List.drop_eq_getElem_cons h]
    simp [List.isPrefixOf, Bool.beq_comm]
    try (exact eq_comm)
  · rw [List.getElem?_eq_none h, List.drop_eq_nil_of_le h]
    rfl
theorem noOcc_pre {d : UInt8} {pre rest : List UInt8} (h : d ∉ pre) : Lib.NoOcc (pre ++ rest) [d] pre.length := fun j hj => by
  rw [occ_cons, List.getElem?_append_left hj, List.getElem?_eq_getElem hj]
  simp only [beq_eq_false_iff_ne, ne_eq, Option.some.injEq]
  intro e
  exact h (e ▸ List.getElem_mem hj)
theorem index_pre {d : UInt8} {pre rest : List UInt8} (h : d ∉ pre) : Lib.index (pre ++ d :: rest) [d] = pre.length :=
  Lib.index_hit (noOcc_pre h) (by simp) (by rw [occ_cons, List.getElem?_append_right (Nat.le_refl _), Nat.sub_self]; simp)
theorem index_no {d : UInt8} {l : List UInt8} (h : d ∉ l) : Lib.index l [d] = -1 :=
  Lib.index_past (i := l.length) (by simp) (by have := noOcc_pre (rest := []) h; rwa [List.append_nil] at this) (by simp)
theorem split_fL : ∀ (es : List (Nat × Nat)) (pre : List UInt8), (∀ p ∈ es, p.1 ≤ 9 ∧ p.2 ≤ 9) → (32 : UInt8) ∉ pre →
    Lib.count (pre ++ fL es) [32] = es.length ∧ Lib.splitK [32] 0 es.length (pre ++ fL es) = pre :: es.map wL
  | [], pre, _, h => by
    rw [show fL [] = [] from rfl, List.append_nil]
    exact ⟨Lib.count_miss (index_no h), rfl⟩
  | p :: es, pre, hes, h => by
    have hp := hes p (by simp)
    have hw := wL_no hp.1 hp.2
    have r := split_fL es (wL p) (fun q hq => hes q (by simp [hq])) hw
    have e : pre ++ fL (p :: es) = pre ++ (32 : UInt8) :: (wL p ++ fL es) := by simp [fL]
    have hi := index_pre (d := 32) (rest := wL p ++ fL es) h
    have ed : (pre ++ (32 : UInt8) :: (wL p ++ fL es)).drop (pre.length + 1) = wL p ++ fL es := by simp
    rw [e]
    refine ⟨?_, ?_⟩
    · rw [Lib.count_hit (by simp) hi, show [(32 : UInt8)].length = 1 from rfl, ed, r.1, List.length_cons]; omega
    · rw [List.length_cons]
      unfold Lib.splitK
      rw [if_neg (by rw [hi]; simp), hi, show [(32 : UInt8)].length = 1 from rfl, Int.toNat_natCast, ed, r.2]
      simp
theorem byte_ext {a b : ByteArray} (h : a.data.toList = b.data.toList) : a = b := by
  cases a; cases b
  congr 1
  exact Array.ext' h
/-- The word of an attack. -/
def wB (p : Nat × Nat) : ByteArray := ⟨(wL p).toArray⟩
theorem frT_count {n : Nat} {es : List (Nat × Nat)} (ok : FrOk n es) : Lib.countB (frT n (es.map erow)) ⟨#[32]⟩ = es.length := by
  show Lib.count (frT n (es.map erow)).data.toList [32] = _
  rw [frT_bytes]
  exact (split_fL es (dL n) ok.nine (dL_small ⟨n, by have := ok.n10; omega⟩).1).1
theorem frT_split {n : Nat} {es : List (Nat × Nat)} (ok : FrOk n es) : Lib.splitB ⟨#[32]⟩ 0 es.length (frT n (es.map erow)) = decT n :: es.map wB := by
  have h := Lib.splitB_data ⟨#[32]⟩ 0 es.length (frT n (es.map erow))
  rw [frT_bytes] at h
  rw [show (⟨#[32]⟩ : ByteArray).data.toList = [32] from rfl, (split_fL es (dL n) ok.nine (dL_small ⟨n, by have := ok.n10; omega⟩).1).2] at h
  have : (decT n :: es.map wB).map (·.data.toList) = dL n :: es.map wL := by simp [dL, wB, List.map_map, Function.comp_def]
  rw [← this] at h
  generalize Lib.splitB _ _ _ _ = l at h
  generalize decT n :: es.map wB = r at h
  clear this ok
  induction l generalizing r with
  | nil => cases r with
    | nil => rfl
    | cons _ _ => simp at h
  | cons a l ih => cases r with
    | nil => simp at h
    | cons b r =>
      simp only [List.map_cons, List.cons.injEq] at h
      rw [byte_ext h.1, ih r h.2]
theorem cut_all : ∀ a b : Fin 10, Lib.cut (wL (a.1, b.1)) [62] = (dL a.1, dL b.1, true) := by decide
theorem cut_wB {p : Nat × Nat} (h1 : p.1 ≤ 9) (h2 : p.2 ≤ 9) : (⟨(Lib.cut (wB p).data.toList (⟨#[62]⟩ : ByteArray).data.toList).1.toArray⟩ : ByteArray) = decT p.1 ∧ (⟨(Lib.cut (wB p).data.toList (⟨#[62]⟩ : ByteArray).data.toList).2.1.toArray⟩ : ByteArray) = decT p.2 := by
  have e := cut_all ⟨p.1, by omega⟩ ⟨p.2, by omega⟩
  rw [show (wB p).data.toList = wL (p.1, p.2) from by simp [wB], show (⟨#[62]⟩ : ByteArray).data.toList = [62] from rfl]
  simp only at e
  rw [e]
  exact ⟨by simp [dL], by simp [dL]⟩
/-! ### what a reading yields -/
/-- cnt and rows are those of the frame whose text s is, if it is one. -/
def Reads (s : ByteArray) (cnt : Int) (rows : List (List Int)) : Prop := ∀ n es, FrOk n es → frT n (es.map erow) = s → cnt = n ∧ rows = es.map erow
/-- The answer. -/
def Res (s : ByteArray) (cnt : Int) (rows : List (List Int)) (b : Bool) : Prop :=
  (b = true ∧ ∃ n es, FrOk n es ∧ frT n (es.map erow) = s ∧ cnt = n ∧ rows = es.map erow) ∨ (b = false ∧ cnt = 0 ∧ rows = [] ∧ ∀ n es, FrOk n es → frT n (es.map erow) ≠ s)
theorem frB_good {n : Nat} {es : List (Nat × Nat)} (ok : FrOk n es) : frB n (es.map erow) = true := by
  unfold frB
  rw [Bool.and_eq_true]
  have n10 := ok.n10
  have ew : IntKind.i64.wrap ((n : Int) - 1) = (n : Int) - 1 := IntWalk.i64_in _ (by omega)
  refine ⟨List.all_eq_true.2 fun i hi => ?_, inR_true.2 (by omega)⟩
  have hi' : i < es.length := by simpa using hi
  have hp := List.getElem?_eq_getElem hi'
  have i1 := ok.inn _ (List.getElem_mem hi')
  have g1 : (es.map erow).getD i [] = erow es[i] := getD_row (by rw [List.getElem?_map, hp]; rfl)
  unfold rowC rowP
  rw [g1, ew, Bool.and_eq_true, Bool.and_eq_true, Bool.and_eq_true]
  refine ⟨⟨⟨by simp [erow], inR_true.2 (by simp [erow]; omega)⟩, inR_true.2 (by simp [erow]; omega)⟩, ?_⟩
  rw [Bool.or_eq_true]
  rcases Nat.eq_zero_or_pos i with h0 | h0
  · exact .inl (by simp [h0])
  · refine .inr ?_
    have hp2 := List.getElem?_eq_getElem (show i - 1 < es.length by omega)
    have g2 : (es.map erow).getD (i - 1) [] = erow es[i - 1] := getD_row (by rw [List.getElem?_map, hp2]; rfl)
    have := ok.lt (i - 1) _ _ hp2 (by rw [show i - 1 + 1 = i by omega]; exact hp)
    rw [g2]
    unfold lexB cmp2 erow
    unfold lt2 at this
    simp only [List.getD_cons_zero, List.getD_cons_succ]
    rcases this with h | ⟨h1, h2⟩
    · rw [if_pos (by omega)]; rfl
    · rw [if_neg (by omega), if_neg (by omega), if_pos (by omega)]; rfl
theorem Reads.no {s : ByteArray} {cnt : Int} {rows : List (List Int)} (h : Reads s cnt rows) (hn : frB cnt rows = true → frT cnt rows ≠ s) : Res s 0 [] false :=
  .inr ⟨rfl, rfl, rfl, fun n es ok e => by
    obtain ⟨rfl, rfl⟩ := h n es ok e
    exact hn (frB_good ok) e⟩
theorem Reads.yes {s : ByteArray} {cnt : Int} {rows : List (List Int)} (hf : frB cnt rows = true) (ht : frT cnt rows = s) : Res s cnt rows true := by
  obtain ⟨n, es, rfl, rfl, ok⟩ := frB_yes hf
  exact .inl ⟨rfl, n, es, ok, ht, rfl, rfl⟩
end Go.Proofs.YteehbnanjgmliaaDoor
