/- slices.SortFunc over rows of the call's own, by the shelf; the program's sorted sets. -/
import Derived.Test.YteejfjgofpolkaaLists2
import Derived.Test.YteejfjgofpolkaaShelf
import Derived.Sort.OwnSortedInts
namespace Go.Proofs.Yteejfjgofpolkaa
set_option linter.unusedVariables false
set_option linter.unusedSimpArgs false
set_option maxRecDepth 100000
open Go.RowKit Go.Sort
theorem heap_sortedG {α : Type} [Inhabited α] {enc : α → Value} {w : World} {g n : Nat} {os : Array Obj} {cur : Array Value} {e : TypeId} {fr : Nat × Nat} (d : Array α) (hb : w.heap[g]? = some (.cells cur e fr)) :
    (Sort.grow (putRow enc (Sort.ahead w n) g 0 d) os).heap[g]? = some (.cells (putCells enc 0 d cur) e fr) := by
  have hg : g < w.heap.size := (Array.getElem?_eq_some_iff.1 hb).1
  rw [heap_grow_old _ _ (by simpa using hg)]
  simp [putRow, mapBlock, Sort.ahead, Array.getElem?_modify, hb, onCells]
theorem grownBy_sortedG {α : Type} [Inhabited α] {enc : α → Value} {w : World} {g n : Nat} {os : Array Obj} (d : Array α) : w.grownBy (Sort.grow (putRow enc (Sort.ahead w n) g 0 d) os) (some g) := by
  refine ⟨rfl, rfl, rfl, by simp, fun k hk hne => ?_⟩
  rw [heap_grow_old _ _ (by simpa using hk)]
  have : g ≠ k := fun e => hne (by rw [e])
  simp [putRow, mapBlock, Sort.ahead, Array.getElem?_modify, this]
theorem take_putCellsG {α : Type} [Inhabited α] {enc : α → Value} (cur : Array Value) (ts : List α) (h : ts.length ≤ cur.size) : (putCells enc 0 ts.toArray cur).toList.take ts.length = ts.map enc := by
  apply List.ext_getElem?
  intro j
  by_cases hj : j < ts.length
  · rw [List.getElem?_take_of_lt hj, Array.getElem?_toList]
    simp [putCells, hj, show j < cur.size by omega]
  · rw [List.getElem?_take_eq_none (by omega), List.getElem?_eq_none (by simp; omega)]
theorem ownsRow_sortedG {α : Type} [Inhabited α] {enc : α → Value} {w : World} {base g c n k : Nat} {e : TypeId} {os : Array Obj} {us : List Value} {ts : List α} (h : w.ownsRow base e 1 (.slice (some ⟨g, 0, none⟩) n c) n us) (hl : ts.length = n) :
    (Sort.grow (putRow enc (Sort.ahead w k) g 0 ts.toArray) os).ownsRow base e 1 (.slice (some ⟨g, 0, none⟩) n c) n (ts.map enc) := by
  rcases h.2 with ⟨hv, _⟩ | ⟨g', cap, cur, hv, hb, hg, hnc, hcm, hcs, ht⟩
  · cases hv
  · simp only [Value.slice.injEq, Option.some.injEq, Addr.mk.injEq, and_true, true_and] at hv
    obtain ⟨rfl, rfl⟩ := hv
    exact ⟨by simp [hl], .inr ⟨g, c, _, rfl, hb, heap_sortedG _ hg, hnc, hcm, by simp [putCells, hcs], by rw [Nat.mul_one, ← hl]; exact take_putCellsG cur ts (by omega)⟩⟩
theorem holdsG {α : Type} [Inhabited α] {enc : α → Value} {w : World} {base g c n : Nat} {e : TypeId} {ts : List α} (h : w.ownsRow base e 1 (.slice (some ⟨g, 0, none⟩) n c) n (ts.map enc)) : Holds enc w g 0 ts.toArray := by
  have hl : ts.length = n := by have := h.1; simpa using this
  rcases h.2 with ⟨hv, _⟩ | ⟨g', cap, cur, hv, hb, hg, hnc, hcm, hcs, ht⟩
  · cases hv
  · simp only [Value.slice.injEq, Option.some.injEq, Addr.mk.injEq, and_true, true_and] at hv
    obtain ⟨rfl, rfl⟩ := hv
    intro j hj
    have hj' : j < ts.length := by simpa using hj
    refine ⟨?_, by simp [World.frozen?, hg]⟩
    have h1 : (cur.toList.take (n * 1))[j]? = (ts.map enc)[j]? := by rw [ht]
    rw [List.getElem?_take_of_lt (by omega)] at h1
    simp only [World.cell?, hg, Nat.zero_add]
    simp only [Option.isSome_none, Bool.false_eq_true, if_false]
    rw [← Array.getElem?_toList, h1]
    simp [hj']
/-- What the sort may compare. -/
def RowIn (w : World) (g : Nat) (p : Value × List Int) : Prop := ∃ A c, p.1 = .slice A p.2.length c ∧ Ints .i64 w A p.2.length c p.2 ∧ ∀ a, A = some a → some a.block ≠ some g
theorem rowIn_nil (w : World) (g : Nat) : RowIn w g (.slice none 0 0, []) := ⟨none, 0, rfl, ⟨rfl, Nat.le_refl _, by show (0 : Nat) ≤ _; omega, (fun z hz => absurd hz (by simp)), (fun h => absurd h (by show ¬ (0 < ([] : List Int).length); simp))⟩, fun a h => by cases h⟩
abbrev RowT (w : World) (g : Nat) : Type := {p : Value × List Int // RowIn w g p}
instance (w : World) (g : Nat) : Inhabited (RowT w g) := ⟨⟨_, rowIn_nil w g⟩⟩
theorem cmp_swo (w : World) (g : Nat) : SWO (Go.Proofs.ltOf fun x y : RowT w g => cmpL x.1.2 y.1.2) where
  irrefl x := by show decide (cmpL x.1.2 x.1.2 < 0) = false; rw [cmpL_self]; rfl
  trans x y z h1 h2 := by
    simp only [Go.Proofs.ltOf, decide_eq_true_eq] at *
    exact cmpL_lt_trans h1 h2
  ntrans x y z h1 h2 := by
    simp only [Go.Proofs.ltOf, decide_eq_false_iff_not] at *
    have e1 := cmpL_swap x.1.2 y.1.2
    have e2 := cmpL_swap y.1.2 z.1.2
    have e3 := cmpL_swap x.1.2 z.1.2
    have := cmpL_trans (show cmpL z.1.2 y.1.2 ≤ 0 by omega) (show cmpL y.1.2 x.1.2 ≤ 0 by omega)
    omega
theorem sortF_any (base g c : Nat) (ps : List (Value × List Int)) (w : World) (h : OwnP w base (some ⟨g, 0, none⟩) ps.length c ps) (hn : ps.length ≤ 1048576) (hg : g < w.heap.size) :
    Calls Try.prog 111 #[.slice (some ⟨g, 0, none⟩) ps.length c, .func (.func 112) #[] #[]] w fun e w' => e = .returned (.tuple #[]) ∧ ∃ qs, qs.Perm ps ∧ Asc (qs.map Prod.snd) ∧ OwnP w' base (some ⟨g, 0, none⟩) ps.length c qs ∧ w.grownBy w' (some g) := by
  have hR : ∀ p ∈ ps, RowIn w g p := fun p hp => by
    obtain ⟨A, d, e, o⟩ := h.rows.1 p hp
    exact ⟨A, d, e, o.ints, fun a ha => by
      subst ha
      have := own_ne o.1 h.outer (by decide)
      simpa [Value.ownBlock] using this⟩
  obtain ⟨ds, hds⟩ : ∃ ds : List (RowT w g), ds.map Subtype.val = ps := ⟨ps.attachWith _ hR, by simp; exact List.attach_map_subtype_val ps⟩
  have hlen : ds.length = ps.length := by rw [← hds, List.length_map]
  have hH : Holds (fun x : RowT w g => x.1.1) w g 0 ds.toArray := holdsG (base := base) (e := 28) (n := ps.length) (c := c) (by
    have := h.outer
    rw [← hds, List.map_map] at this
    rw [← hds]
    exact this)
  have eg : ∀ args W, (callFunc 112 args).run Try.prog W = .ok (.enter 112 args) W := enters_of Try.func112 (by kernel_rfl) rfl
  have hcmp : Go.Proofs.CmpLays1 Try.prog 112 #[] (fun x : RowT w g => x.1.1) (fun x y : RowT w g => cmpL x.1.2 y.1.2) g 0 ds.toArray.size w := fun m os dk hs x y => by
    obtain ⟨⟨vx, zx⟩, Ax, cx, ex, ix, nx⟩ := x
    obtain ⟨⟨vy, zy⟩, Ay, cy, ey, iy, ny⟩ := y
    simp only at ex ey ix iy nx ny
    subst ex
    subst ey
    have gg := grownBy_sortedG (enc := fun x : RowT w g => x.1.1) (w := w) (g := g) (n := m) (os := os) dk
    refine (sortCl_any Ax zx.length cx zx Ay zy.length cy zy _ (ix.kept gg nx) (iy.kept gg ny)).mono ?_
    rintro e w' ⟨rfl, rfl⟩
    exact ⟨rfl, 0, #[], by rw [Sort.grow_empty]; rfl⟩
  have hS := Try.slices_SortFunc (fun x : RowT w g => x.1.1) (fun x => by obtain ⟨A, d, e, _⟩ := x.2; show x.1.1.oneCell' = true; rw [e]; rfl) (fun x y : RowT w g => cmpL x.1.2 y.1.2) (cmp_swo w g) 112 #[] g 0 c ds.toArray w eg hcmp hH hg (by simp; omega)
  have es : ds.toArray.size = ps.length := by simpa using hlen
  rw [es] at hS
  refine hS.mono ?_
  rintro e w' ⟨rfl, d', k, os, hp, hs, rfl⟩
  have ds' : d'.size = ps.length := hp.1.trans es
  have pm : d'.toList.Perm ds := by
    have := hp.2.2
    rwa [show d'.extract 0 ps.length = d' by rw [← ds']; simp, show ds.toArray.extract 0 ps.length = ds.toArray by rw [← es]; simp] at this
  have pq : (d'.toList.map Subtype.val).Perm ps := by rw [← hds]; exact pm.map _
  have gg := grownBy_sortedG (enc := fun x : RowT w g => x.1.1) (w := w) (g := g) (n := k) (os := os) d'
  refine ⟨rfl, d'.toList.map Subtype.val, pq, ?_, ⟨?_, (h.rows.perm pq.symm).grown h.outer gg⟩, gg⟩
  · refine List.pairwise_map.2 (List.pairwise_map.2 (List.pairwise_iff_getElem.2 fun i j hi hj hij => ?_))
    have hj' : j < d'.size := by simpa using hj
    have := hs i j (Nat.zero_le _) hij (by omega)
    simp only [Go.Proofs.ltOf, decide_eq_false_iff_not] at this
    rw [getElem!_pos d' j hj', getElem!_pos d' i (by omega)] at this
    have := cmpL_swap (d'[j]'hj').1.2 (d'[i]'(by omega)).1.2
    simp only [Array.getElem_toList]
    omega
  · rw [List.map_map]
    exact ownsRow_sortedG (enc := fun x : RowT w g => x.1.1) (ts := d'.toList) h.outer (by simpa using ds')
set_option maxHeartbeats 2000000 in
theorem sorted_ok (A : Option Addr) (c : Nat) (L : List Nat) (hL : ∀ m ∈ L, m < 1024) (hl : L.length ≤ 1024) (w : World) (h : Ints .i64 w A L.length c (nI L)) :
    Calls Try.prog 89 #[.slice A L.length c] w fun e w' => ∃ A' c' vs, e = .returned (.slice A' (srtL (bitsL L)).length c') ∧ OwnM w' w.heap.size A' (srtL (bitsL L)).length c' vs (srtL (bitsL L)) ∧ Below w.heap.size w w' := by
  have H := Lib.hid h
  have LB := Lib.hid hL
  have O0 := Lib.hid (show OwnP (w.alloc (.cells #[] 28)) w.heap.size (some ⟨w.heap.size, 0, none⟩) 0 0 [] from ⟨outer_lit w, ⟨by simp, .nil⟩⟩)
  have B0 := Lib.hid (bel_alloc w (.cells #[] 28))
  clear h hL
  go_enter Try.func89, Try.ntmps89
  go_wp2_with fail
  go_loopw [3, 9] (fun o t wr => ∃ (k g c' : Nat) (ps : List (Value × List Int)), k ≤ L.length ∧ t = .int .i64 k ∧ o = .slice (some ⟨g, 0, none⟩) k c' ∧ OwnP wr w.heap.size (some ⟨g, 0, none⟩) k c' ps ∧ Hid (ps.map Prod.snd = bitsL (L.take k)) ∧ g < wr.heap.size ∧ Below w.heap.size w wr) (fun _ t _ => L.length - (intOf t).toNat)
  case atStart => exact ⟨0, w.heap.size, 0, [], Nat.zero_le _, rfl, rfl, O0.out, rfl, by simp, B0.out⟩
  case round =>
    obtain ⟨k, g, c', ps, hk, rfl, rfl, hO, AS, hg, hB⟩ := hrel
    have HO := Lib.hid hO
    have HB := Lib.hid hB
    have HPL := Lib.hid hO.len
    clear hO hB O0 B0
    by_cases hlt : k < L.length
    · obtain ⟨m, hm⟩ : ∃ m, L[k]? = some m := ⟨_, List.getElem?_eq_getElem hlt⟩
      have hm10 := LB.out m (List.mem_of_getElem? hm)
      obtain ⟨b, off, e1, cm⟩ := (H.out.below HB.out).get (nI_at hm)
      subst e1
      have hd := decide_eq_true (show (k : Int) < (L.length : Int) by omega)
      have k0 : (0 : Int) ≤ (k : Int) := by omega
      have k1 : (k : Int) < (L.length : Int) := by omega
      have BS := Lib.hid (bitsL_snoc hm)
      have szr := HB.out.size
      clear hm
      go_wp2_with fail
      refine (setOf_any m hm10 _).mono ?_
      rintro e w1 ⟨A1, c1, rfl, o1, u1⟩
      have sz1 := u1.size
      obtain ⟨z, hz⟩ : ∃ z, bitsTo m 10 = z := ⟨_, rfl⟩
      rw [hz] at BS o1 ⊢
      have P1 := Lib.hid (HO.out.below u1)
      have B1 := Lib.hid (bel_trans HB.out u1)
      have NEW := Lib.hid (fun p hp => (show Apart (p : Value × List Int).1 (.slice A1 z.length c1) from by
        rcases Classical.em ((Value.slice A1 z.length c1).ownBlock = none) with e | e
        · exact (show Apart (.slice A1 z.length c1) p.1 from .inl e).symm
        · refine .inr fun e2 => ?_
          cases hb : (Value.slice A1 z.length c1).ownBlock with
          | none => exact e hb
          | some x =>
            have h1 := (o1.block x hb).1
            have h2 := (HO.out.rows.blocks p hp x (e2.trans hb)).2
            omega))
      have M1 := Lib.hid (P1.out.rows.cons (o1.mono (by have := HB.out.size; omega)) (fun p hp => NEW.out p hp))
      have BA := Lib.hid (bel_alloc w1 (.cells #[.slice A1 z.length c1] 28))
      have PA := Lib.hid (P1.out.below BA.out)
      have MA := Lib.hid (M1.out.below BA.out)
      have sA : w.heap.size ≤ (w1.alloc (.cells #[.slice A1 z.length c1] 28)).heap.size := by simp; omega
      clear o1 u1 hz P1 M1 NEW
      go_wp2_with (at_builtin; refine app_outer (w1.alloc (.cells #[.slice A1 z.length c1] 28)) rfl _ _ rfl w.heap.size (some ⟨g, 0, none⟩) k c' (ps.map Prod.fst) rfl PA.out.outer ⟨w1.heap.size, 0, none⟩ 1 1 [.slice A1 z.length c1] rfl rfl (one_cells w1 _) (by simp [Value.oneCell']) (by omega) (by omega) sA ?_; intro A8 c8 w8 p1 p2; obtain ⟨g9, rfl⟩ := own_form p1 (by omega); have s8 := (p1.lt g9 rfl).2; have M8 := Lib.hid (MA.out.grown PA.out.outer p2); have P8 := Lib.hid p1; have B8 := Lib.hid ((bel_trans B1.out BA.out).grown p2 sA (fun x hx => (PA.out.outer.lt x hx).1)); clear p1 p2)
      have Q8 := Lib.hid (show OwnP w8 w.heap.size (some ⟨g9, 0, none⟩) (k + 1) c8 (ps ++ [(.slice A1 z.length c1, z)]) from ⟨by rw [List.map_append]; exact P8.out, M8.out.perm (List.perm_append_singleton _ _).symm⟩)
      clear P8 M8 PA MA BA
      go_roundw
      case rel => exact ⟨k + 1, g9, c8, _, by omega, by go_num, rfl, Q8.out, by show _ = _; rw [List.map_append, AS.out, BS.out]; rfl, s8, B8.out⟩
      case measure => simp [intOf]; omega
    · obtain rfl : k = L.length := by omega
      have d0 := decide_eq_false (show ¬ (L.length : Int) < (L.length : Int) by omega)
      have eL := AS.out
      rw [List.take_length] at eL
      have SF := Lib.hid (sortF_any w.heap.size g c' ps wr (by have := HO.out; rwa [← HPL.out] at this) (by have := HPL.out; omega) hg)
      rw [HPL.out] at SF
      clear AS
      have EL := Lib.hid eL
      clear eL
      go_wp2_with fail
      refine SF.out.mono ?_
      rintro e w1 ⟨rfl, qs, hq, ha, ho, hgr⟩
      have E := Lib.hid (show qs.map Prod.snd = srtL (bitsL L) from srtL_of ha (by rw [← EL.out]; exact hq.map _))
      have OM := Lib.hid ho.toM
      have EN : (srtL (bitsL L)).length = L.length := by rw [srtL_len, bitsL_len]
      rw [E.out, ← EN] at OM
      have B1 := Lib.hid (HB.out.grown hgr HB.out.size (fun x hx => (HO.out.outer.lt x hx).1))
      clear hq ha ho hgr SF
      go_wp2_with fail
      go_ret
      exact ⟨some ⟨g, 0, none⟩, c', _, by rw [EN]; rfl, OM.out, B1.out⟩
end Go.Proofs.Yteejfjgofpolkaa
