/- slices.Delete and slices.Insert on articles. -/
import Derived.Test.YtcoladhppbknnaaAsm0
import Derived.Test.YtcoladhppbknnaaSrc
import Derived.Test.YtcoladhppbknnaaEd
import Derived.Test.YtcoladhppbknnaaArt
import Derived.Deep.AppendSrc
import Derived.Shelf.RegionOpenPlain
import Derived.Lib.SliceRun
import Derived.Lib.Overlaps
import Derived.Lib.AppendZerosOnto
import Derived.Laws.Externs
import Derived.Laws.CopyRow
namespace Go.Proofs.Ytcoladhppbknnaa
set_option linter.unusedVariables false
set_option linter.unusedSimpArgs false
set_option maxRecDepth 100000
open Go.RowKit Go.Deep
theorem setCells_grown (b : Nat) : ∀ (vs : List Value) (o : Nat) (w : World), (w.setCells b o vs).tape = w.tape ∧ (w.setCells b o vs).os = w.os ∧ (w.setCells b o vs).output = w.output ∧ (w.setCells b o vs).heap.size = w.heap.size ∧ ∀ k, k ≠ b → (w.setCells b o vs).heap[k]? = w.heap[k]?
  | [], _, _ => ⟨rfl, rfl, rfl, rfl, fun _ _ => rfl⟩
  | v :: r, o, w => by
    obtain ⟨h1, h2, h3, h4, h5⟩ := setCells_grown b r (o + 1) (w.setCell ⟨b, o, none⟩ v)
    rw [World.setCells]
    exact ⟨h1, h2, h3, by rw [h4]; simp [World.setCell], fun k hk => by rw [h5 k hk]; exact heap_setCell_other w ⟨b, o, none⟩ k v (fun e => hk (by simpa using e))⟩
theorem grown_setCells (w : World) (g o : Nat) (vs : List Value) : w.grownBy (w.setCells g o vs) (some g) := by
  obtain ⟨t1, t2, t3, t4, t5⟩ := setCells_grown g vs o w
  exact ⟨t2, t1, t3, by rw [t4]; exact Nat.le_refl _, fun k _ hk => t5 k (fun e => hk (by rw [e]))⟩
theorem seg_step {α : Type} (l : List α) (o : Nat) (v : α) (r : List α) (h : o + (r.length + 1) ≤ l.length) :
    (l.set o v).take (o + 1) ++ r ++ (l.set o v).drop (o + 1 + r.length) = l.take o ++ (v :: r) ++ l.drop (o + (r.length + 1)) := by
  have h1 : (l.set o v).take (o + 1) = l.take o ++ [v] := by
    rw [List.take_add_one, List.getElem?_set_self (by omega), List.take_set_of_le (Nat.le_refl o)]
    rfl
  have h2 : (l.set o v).drop (o + 1 + r.length) = l.drop (o + (r.length + 1)) := by
    rw [List.drop_set_of_lt (by omega)]
    congr 1
    omega
  rw [h1, h2]
  simp
theorem Blk.cells {g : Nat} {t : TypeId} : ∀ (vs : List Value) (o : Nat) {w : World} {cur : Array Value}, Blk w g t cur → o + vs.length ≤ cur.size → Blk (w.setCells g o vs) g t (cur.toList.take o ++ vs ++ cur.toList.drop (o + vs.length)).toArray
  | [], o, w, cur, h, _ => by
    rw [World.setCells]
    simpa using h
  | v :: r, o, w, cur, h, hl => by
    rw [World.setCells]
    have := Blk.cells r (o + 1) (h.set_ o v) (by simp at hl ⊢; omega)
    rw [show (cur.setIfInBounds o v).toList = cur.toList.set o v by simp, seg_step cur.toList o v r (by simp at hl ⊢; omega)] at this
    exact this
theorem flat_take {s : Nat} : ∀ {rs : List (List Value)}, (∀ r ∈ rs, r.length = s) → ∀ i, (rs.take i).flatten = rs.flatten.take (i * s)
  | [], _, i => by simp
  | r :: rs, h, 0 => by simp
  | r :: rs, h, i + 1 => by
    have hr := h r (List.mem_cons_self ..)
    rw [List.take_succ_cons, List.flatten_cons, List.flatten_cons, flat_take (fun q hq => h q (List.mem_cons_of_mem _ hq)) i, Nat.succ_mul, List.take_append, hr, show i * s + s - s = i * s by omega, List.take_of_length_le (l := r) (by rw [hr]; omega)]
theorem flat_drop {s : Nat} : ∀ {rs : List (List Value)}, (∀ r ∈ rs, r.length = s) → ∀ i, (rs.drop i).flatten = rs.flatten.drop (i * s)
  | [], _, i => by simp
  | r :: rs, h, 0 => by simp
  | r :: rs, h, i + 1 => by
    have hr := h r (List.mem_cons_self ..)
    rw [List.drop_succ_cons, List.flatten_cons, flat_drop (fun q hq => h q (List.mem_cons_of_mem _ hq)) i, Nat.succ_mul, List.drop_append, hr, show i * s + s - s = i * s by omega, List.drop_of_length_le (l := r) (by rw [hr]; omega), List.nil_append]
theorem OwnR.blk {t s : Nat} {w : World} {base g n c : Nat} {rs : List (List Value)} (h : OwnR t s w base (some ⟨g, 0, none⟩) n c rs) :
    ∃ cur, Blk w g t cur ∧ base ≤ g ∧ n ≤ c ∧ c ≤ maxLen ∧ cur.size = c * s ∧ cur.toList.take (n * s) = rs.flatten := by
  rcases h.1.2 with ⟨hv, _⟩ | ⟨g', cap, cur, hv, hb, hg, hnc, hcm, hcs, ht⟩
  · cases hv
  · simp only [Value.slice.injEq, Option.some.injEq, true_and] at hv
    obtain ⟨h1, rfl⟩ := hv
    injection h1 with h1
    subst h1
    exact ⟨cur, hg, hb, hnc, hcm, hcs, ht⟩
theorem OwnR.ofBlk {t s : Nat} {w : World} {base g n c : Nat} {rs : List (List Value)} {cur : Array Value} (h : Blk w g t cur) (hb : base ≤ g) (hnc : n ≤ c) (hcm : c ≤ maxLen) (hcs : cur.size = c * s) (ht : cur.toList.take (n * s) = rs.flatten) (hl : rs.length = n) (hr : ∀ r ∈ rs, r.length = s) :
    OwnR t s w base (some ⟨g, 0, none⟩) n c rs :=
  ⟨⟨by rw [flat_len hr, hl], .inr ⟨g, c, cur, rfl, hb, h, hnc, hcm, hcs, ht⟩⟩, hl, hr⟩
theorem wpl_copy {P : Program} {w : World} {ops : Array Oper} {rest : List Oper} {o : Oper} {a : Act} {Q : Exit → Act → World → Prop} (hgd : o.guard = none) (d s : Operand) (t t' : TypeId)
    (ho : o.op = .call { callee := .builtin .copy, args := #[d, s], argTypes := #[t, t'] }) {v u : Value} (hd : a.eval d = v) (hs : a.eval s = u) {v' : Value} {w' : World}
    (hr : (Builtin.copy_ #[t, t'] o.type #[v, u]).run P w = .ok v' w') (h : wpList P ops Q rest (a.put o.dst v') w') : wpList P ops Q (o :: rest) a w := by
  refine wpList_plain hgd fun _ hK => ?_
  unfold Oper.wp execOp
  simp only [ho, resolve, invoke, builtin, Sem.run_bind, Sem.run_pure, Result.andThen_ok, List.map_toArray, List.map_cons, List.map_nil, hd, hs, hr]
  exact hK _ _ h
theorem stp_app {P : Program} {ops : Array Oper} {o : Oper} {a : Act} {K : Act → World → Prop} {Q : Exit → Act → World → Prop} {E : Prop} {w : World} (hgd : o.guard = none) (s x : Operand) (t : TypeId)
    (ho : o.op = .call { callee := .builtin .append, args := #[s, x], argTypes := #[t, t] }) {vs vx v : Value} {w' : World} (hs : a.eval s = vs) (hx : a.eval x = vx)
    (hrun : (Builtin.append_ #[t, t] o.type #[vs, vx]).run P w = .ok v w') (h : K (a.put o.dst v) w') : if Region.wanted o (yielded ops a.tmps) = true then Oper.wp P o a w K Q else E := by
  have hw : Region.wanted o (yielded ops a.tmps) = true := by simp [Region.wanted, hgd]
  rw [if_pos hw]
  unfold Oper.wp execOp
  simp only [ho, resolve, invoke, builtin, Sem.run_bind, Sem.run_pure, Result.andThen_ok, List.map_toArray, List.map_cons, List.map_nil, hs, hx, hrun]
  exact h
theorem stp_copy {P : Program} {ops : Array Oper} {o : Oper} {a : Act} {w : World} {K : Act → World → Prop} {Q : Exit → Act → World → Prop} {E : Prop}
    (hg : o.guard = none) (d x : Operand) (dT sT : TypeId) (hop : o.op = Op.call { callee := Callee.builtin Builtin.copy, args := #[d, x], argTypes := #[dT, sT] })
    {v u : Value} (hd : a.eval d = v) (hx : a.eval x = u) {v' : Value} {w' : World} (hr : (Builtin.copy_ #[dT, sT] o.type #[v, u]).run P w = .ok v' w') (hK : K (a.put o.dst v') w') :
    if Region.wanted o (yielded ops a.tmps) = true then Oper.wp P o a w K Q else E := by
  have hw : Region.wanted o (yielded ops a.tmps) = true := by simp [Region.wanted, hg]
  rw [if_pos hw]
  unfold Oper.wp execOp
  simp only [hop, resolve, invoke, builtin, Sem.run_bind, Sem.run_pure, Result.andThen_ok, List.map_toArray, List.map_cons, List.map_nil, hd, hx, hr]
  exact hK
/-- copy within or into a block that is known whole; the source is read first. -/
theorem run_copy_blk {P : Program} {w : World} (dT sT ty elem : TypeId) (s : Nat) (hu : P.underlying dT = some (.slice elem)) (hs : (P.info? elem).map (·.size) = some s)
    {g : Nat} {t : TypeId} {cur : Array Value} (hb : Blk w g t cur) (o dLen dCap : Nat) (a : Addr) (sLen sCap : Nat) (cs : List Value) (hn : cs.length = Nat.min sLen dLen * s)
    (hsrc : ∀ j v, cs[j]? = some v → w.cell? (a.add j) = some v) (hfit : o + cs.length ≤ cur.size) (h1 : ∀ v ∈ cs, v.oneCell' = true) :
    (Builtin.copy_ #[dT, sT] ty #[.slice (some ⟨g, o, none⟩) dLen dCap, .slice (some a) sLen sCap]).run P w = .ok (goInt (Nat.min sLen dLen)) (w.setCells g o cs) := by
  have hl := run_loadCells_list (P := P) w a cs hsrc
  have hst := run_storeCells_cells (P := P) g o cs 0 w (fun j hj => by rw [Nat.add_zero, hb.cell, Array.getElem?_eq_getElem (by omega)]; rfl) (fun j hj => hb.frozen _) h1
  rw [Nat.add_zero] at hst
  cases hq : P.info? elem with
  | none => simp [hq] at hs
  | some i =>
    have hi : i.size = s := by simpa [hq] using hs
    have hl2 : (loadCells a (Nat.min sLen dLen * s)).run P w = .ok cs.toArray w := by rw [← hn]; exact hl
    simp [Builtin.copy_, run_underlying hu, Builtin.lenOf, Builtin.firstCells, sizeOf, typeInfo, hq, hi, hl2, hst]
theorem size_ar : (Try.prog.info? 70).map (·.size) = some 2 := by kernel_rfl
theorem zero_ar (w : World) : (zeroValue 70).run Try.prog w = .ok (.agg #[.int .i64 0, .string ByteArray.empty]) w := by
  obtain ⟨i0, hi, hz0, hz1, hz2⟩ := info_parts info_ar
  simp [zeroValue, typeInfo, hi, hz0]
theorem run_clear_one {w : World} (ty : TypeId) {g : Nat} {t : TypeId} {cur : Array Value} (hb : Blk w g t cur) (o c : Nat) (hfit : o + 2 ≤ cur.size) :
    (Builtin.clear_ #[37] ty #[.slice (some ⟨g, o, none⟩) 1 c]).run Try.prog w = .ok (.tuple #[]) (w.setCells g o [.int .i64 0, .string ByteArray.empty]) := by
  have hst := run_storeCells_cells (P := Try.prog) g o [.int .i64 0, .string ByteArray.empty] 0 w (fun j hj => by rw [Nat.add_zero, hb.cell, Array.getElem?_eq_getElem (by simp at hj; omega)]; rfl) (fun j hj => hb.frozen _) (by intro v hv; simp at hv; rcases hv with rfl | rfl <;> rfl)
  rw [Nat.add_zero] at hst
  have hz : (Builtin.zeroCells (Value.agg #[.int .i64 0, .string ByteArray.empty]).cells 1).toList = [.int .i64 0, .string ByteArray.empty] := by kernel_rfl
  have hz' : (Builtin.zeroCells (Value.agg #[.int .i64 0, .string ⟨#[]⟩]).cells 1).toList = [.int .i64 0, .string ByteArray.empty] := hz
  simp only [Builtin.clear_]
  simp [run_underlying Try.underlying37, zero_ar, hz, hz', hst]
set_option maxHeartbeats 1000000 in
theorem delete_ok (w : World) (base g n c i : Nat) (rs : List (List Value)) (h : OwnR 70 2 w base (some ⟨g, 0, none⟩) n c rs) (h1 : ∀ r ∈ rs, ∀ u ∈ r, u.oneCell' = true) (hi : i < n) (hn : n ≤ 1048576) :
    Calls Try.prog 110 #[.slice (some ⟨g, 0, none⟩) n c, .int .i64 i, .int .i64 ((i : Int) + 1)] w fun e w' => e = .returned (.slice (some ⟨g, 0, none⟩) (n - 1) c) ∧ OwnR 70 2 w' base (some ⟨g, 0, none⟩) (n - 1) c (rs.eraseIdx i) ∧ w.grownBy w' (some g) := by
  obtain ⟨cur, hb, hbg, hnc, hcm, hcs, ht⟩ := h.blk
  have hl := h.2.1
  have hr := h.2.2
  have hfl : rs.flatten.length = n * 2 := by rw [flat_len hr, hl]
  obtain ⟨i0, hi0, hz0, hz1, hz2⟩ := info_parts info_ar
  have cl : cur.toList.length = c * 2 := by simpa using hcs
  -- what is moved
  obtain ⟨news, hnews⟩ : ∃ x, rs.flatten.drop ((i + 1) * 2) = x := ⟨_, rfl⟩
  have nl : news.length = (n - (i + 1)) * 2 := by rw [← hnews, List.length_drop, hfl]; omega
  have n1 : ∀ u ∈ news, u.oneCell' = true := by
    intro u hu
    rw [← hnews] at hu
    obtain ⟨r, hr1, hr2⟩ := List.mem_flatten.1 (List.mem_of_mem_drop hu)
    exact h1 r hr1 u hr2
  have curF : ∀ j, j < n * 2 → cur[j]? = rs.flatten[j]? := by
    intro j hj
    rw [← ht, List.getElem?_take, if_pos hj, Array.getElem?_toList]
  have bD : Blk w.drew g 70 cur := hb
  have hsrc : ∀ A : Addr, (n - (i + 1) = 0 ∨ A = ⟨g, (i + 1) * 2, none⟩) → _root_.Go.Src Try.prog 2 37 (.slice (some A) (n - (i + 1)) (c - (i + 1))) (n - (i + 1)) news w.drew := by
    intro A hA
    refine _root_.Go.Src.ofSlice w.drew Try.underlying37 A _ _ news nl (fun j u hu => ?_) n1
    have hj := (List.getElem?_eq_some_iff.1 hu).1
    rcases hA with hA | rfl
    · omega
    · rw [Addr.add_lit, bD.cell, curF _ (by omega), ← List.getElem?_drop, hnews]
      exact hu
  have hroom := fun A hA ty => run_append_room_src (P := Try.prog) w.drew 37 37 ty 70 i0 Try.underlying37 hi0 g 0 i c _ (n - (i + 1)) news (by rw [hz1]; exact hsrc A hA) (by omega)
    (fun j hj => by rw [hz1, bD.cell, Array.getElem?_eq_getElem (by omega)]; rfl) (fun j hj => bD.frozen _)
  rw [hz1] at hroom
  have b1 := Blk.cells news (0 + i * 2) bD (by omega)
  have g1 := grown_setCells w.drew g (0 + i * 2) news
  obtain ⟨w1, hw1⟩ : ∃ x, w.drew.setCells g (0 + i * 2) news = x := ⟨_, rfl⟩
  rw [hw1] at b1 g1 hroom
  obtain ⟨cur1, hc1⟩ : ∃ x, (cur.toList.take (0 + i * 2) ++ news ++ cur.toList.drop (0 + i * 2 + news.length)).toArray = x := ⟨_, rfl⟩
  rw [hc1] at b1
  have l1 : cur1.toList = cur.toList.take (i * 2) ++ news ++ cur.toList.drop (i * 2 + news.length) := by rw [← hc1]; simp
  have s1 : cur1.size = c * 2 := by
    have : cur1.toList.length = c * 2 := by
      rw [l1]
      simp only [List.length_append, List.length_take, List.length_drop, cl, nl]
      omega
    simpa using this
  have b2 := Blk.cells [.int .i64 0, .string ByteArray.empty] ((n - 1) * 2) b1 (by simp; omega)
  have g2 := grown_setCells w1 g ((n - 1) * 2) [.int .i64 0, .string ByteArray.empty]
  have hcl := fun ty => run_clear_one (w := w1) ty b1 ((n - 1) * 2) (c - (n - 1)) (by omega)
  obtain ⟨w2, hw2⟩ : ∃ x, w1.setCells g ((n - 1) * 2) [.int .i64 0, .string ByteArray.empty] = x := ⟨_, rfl⟩
  rw [hw2] at b2 g2 hcl
  have FIN := Lib.hid (show OwnR 70 2 w2 base (some ⟨g, 0, none⟩) (n - 1) c (rs.eraseIdx i) from by
    refine OwnR.ofBlk b2 hbg (by omega) hcm ?_ ?_ (by rw [List.length_eraseIdx, if_pos (by omega), hl]) (fun r hr' => hr r (List.mem_of_mem_eraseIdx hr'))
    · have e1 : cur1.toList.length = c * 2 := by simpa using s1
      simp only [List.size_toArray, List.length_append, List.length_take, List.length_drop, e1, List.length_cons, List.length_nil]
      omega
    · rw [List.eraseIdx_eq_take_drop_succ, List.flatten_append, flat_take hr, flat_drop hr, hnews]
      have e1 : cur1.toList.length = c * 2 := by simpa using s1
      rw [show (cur1.toList.take ((n - 1) * 2) ++ [Value.int .i64 0, .string ByteArray.empty] ++ cur1.toList.drop ((n - 1) * 2 + [Value.int .i64 0, .string ByteArray.empty].length)).toArray.toList = cur1.toList.take ((n - 1) * 2) ++ ([Value.int .i64 0, .string ByteArray.empty] ++ cur1.toList.drop ((n - 1) * 2 + 2)) by simp]
      rw [List.take_append_of_le_length (by rw [List.length_take, e1]; omega), List.take_of_length_le (by rw [List.length_take]; omega), l1]
      rw [List.take_append_of_le_length (by simp only [List.length_append, List.length_take, cl, nl]; omega), List.take_of_length_le (by simp only [List.length_append, List.length_take, cl, nl]; omega)]
      congr 1
      rw [← ht, List.take_take, Nat.min_eq_left (by omega)])
  have GR := Lib.hid (show w.grownBy w2 (some g) from grown_trans (grown_trans (show w.grownBy w.drew (some g) from ⟨rfl, rfl, rfl, Nat.le_refl _, fun _ _ _ => rfl⟩) g1) g2)
  have RM := Lib.hid hroom
  have CL := Lib.hid hcl
  have i1 : (i : Int) < (n : Int) := by omega
  have i2 : (0 : Int) ≤ (i : Int) := by omega
  have i3 : ((i : Int) + 1) ≤ (n : Int) := by omega
  have i4 : (i : Int) ≤ (c : Int) := by omega
  have i5 : (i : Int) + 1 ≤ (c : Int) := by omega
  have i6 : ((i : Int) + 1).toNat = i + 1 := by omega
  have e0 : decide ((i : Int) = (i : Int) + 1) = false := decide_eq_false (by omega)
  have e1 : ((i : Int) == (i : Int) + 1) = false := by rw [beq_eq_false_iff_ne]; omega
  have cb : c ≤ 9223372036854775807 := by unfold maxLen at hcm; omega
  clear h ht hl hr hfl cl hnews nl n1 curF bD hsrc hroom b1 g1 hw1 hc1 l1 s1 b2 g2 hcl hw2 hb hcs
  go_enter Try.func110, Try.ntmps110
  go_wp2_with fail
  have mixed : Try.prog.follows .mixedOrders = true := by kernel_rfl
  have i7 : (i : Int) ≤ (i : Int) + 1 := by omega
  have i8 : (0 : Int) ≤ (i : Int) + 1 := by omega
  by_cases hc : c = i + 1
  · subst hc
    obtain rfl : n = i + 1 := by omega
    have CL2 := CL.out
    have RM2 := RM.out ⟨g, 0, none⟩ (.inl (by omega))
    rw [Nat.sub_self] at RM2
    clear RM CL
    go_region_law_o (refine stp_app rfl (.tmp 22) (.tmp 25) 37 rfl (vs := .slice (some ⟨g, 0, none⟩) i (i + 1)) (vx := .slice (some ⟨g, 0, none⟩) 0 0) (by simp [Act.eval, Act.put]) (by simp [Act.eval, Act.put]) (RM2 _) ?_)
    have CL3 : (Builtin.clear_ #[37] 0 #[.slice (some ⟨g, i * 2, none⟩) 1 1]).run Try.prog w1 = .ok (.tuple #[]) w2 := by
      have := CL2 0
      rwa [show i + 1 - 1 = i by omega, show i + 1 - i = 1 by omega] at this
    clear CL2
    go_wp2_with fail
    go_ret
    exact ⟨rfl, FIN.out, GR.out⟩
  · have CL2 := CL.out
    go_region_law_o (refine stp_app rfl (.tmp 22) (.tmp 25) 37 rfl (vs := .slice (some ⟨g, 0, none⟩) i c) (vx := .slice (some ⟨g, (i + 1) * 2, none⟩) (n - (i + 1)) (c - (i + 1))) (by simp [Act.eval, Act.put]) (by simp [Act.eval, Act.put]) (RM.out ⟨g, (i + 1) * 2, none⟩ (.inr rfl) _) ?_)
    have CL3 : (Builtin.clear_ #[37] 0 #[.slice (some ⟨g, (i + (n - (i + 1))) * 2, none⟩) (n - (i + (n - (i + 1)))) (c - (i + (n - (i + 1))))]).run Try.prog w1 = .ok (.tuple #[]) w2 := by
      have := CL2 0
      rwa [show i + (n - (i + 1)) = n - 1 by omega, show n - (n - 1) = 1 by omega]
    clear CL2
    go_wp2_with fail
    go_ret
    exact ⟨by rw [show n - 1 = i + (n - (i + 1)) by omega]; rfl, FIN.out, GR.out⟩
theorem overlaps_no (w : World) (a b : Addr) (la ca lb cb : Nat) (hne : a.block ≠ b.block) (tA tB : TypeId) (kA kB : Nat)
    (hsa : w.shape? a.block = some (tA, kA)) (hsb : w.shape? b.block = some (tB, kB)) (hkB : kB ≠ 0)
    (hfa : w.frozen? a = false) (hfe : w.frozen? { block := a.block, off := kA } = false) :
    (callFunc 125 #[.slice (some a) la ca, .slice (some b) lb cb]).run Try.prog w = .ok (.value (.bool false)) w := by
  rw [run_callFunc_extern Try.func125 (by kernel_rfl) (by kernel_rfl) (by kernel_rfl) (e := Extern.SlicesOverlaps.overlaps #[37, 37] #[4]) (by kernel_rfl)]
  obtain ⟨i0, hi, hz0, hz1, hz2⟩ := info_parts info_ar
  rw [Lib.run_overlaps_apart w 37 4 70 Try.underlying37 2 (fun w => by simp [sizeOf, typeInfo, hi, hz1]) a b la ca lb cb hne tA tB kA kB hsa hsb hkB hfa hfe]
  rfl
theorem Blk.shape {w : World} {g : Nat} {t : TypeId} {cs : Array Value} (h : Blk w g t cs) : w.shape? g = some (t, cs.size) := by
  unfold Blk at h
  simp [World.shape?, h]
/-- append of a make onto a slice without room. -/
theorem app_make {ops : Array Oper} {rest : List Oper} {o : Oper} {a : Act} {Q : Exit → Act → World → Prop} (w : World) (hgd : o.guard = none) (s x : Operand)
    (ho : o.op = .call { callee := .builtin .append, args := #[s, x], argTypes := #[37, 3] }) (g i c k N : Nat) (hN : i + k = N) (cur : Array Value) (hb : Blk w g 70 cur) (hic : i ≤ c) (hcs : cur.size = c * 2)
    (hs : a.eval s = .slice (some ⟨g, 0, none⟩) i c) (hx : a.eval x = .int .i64 (k : Int)) (hk : 0 < k) (hg : c < i + k) (hl : i + k ≤ 1048576)
    (h : ∀ w1 G cur1, Blk w1 w.heap.size 70 cur1 → cur1.size = G * 2 → N ≤ G → G ≤ maxLen → cur1.toList.take (i * 2) = cur.toList.take (i * 2) → w.grownBy w1 none → w1.heap.size = w.heap.size + 1 → wpList Try.prog ops Q rest (a.put o.dst (.slice (some ⟨w.heap.size, 0, none⟩) N G)) w1) :
    wpList Try.prog ops Q (o :: rest) a w := by
  subst hN
  obtain ⟨i0, hi, hz0, hz1, hz2⟩ := info_parts info_ar
  have hold : (Builtin.firstCells i0.size i (.slice (some ⟨g, 0, none⟩) i c)).run Try.prog w.drew = .ok (cur.toList.take (i * 2)).toArray w.drew := by
    rw [hz1]
    refine run_firstCells_some w.drew 2 i ⟨g, 0, none⟩ i c _ (by rw [List.length_take]; simp [hcs]; omega) (fun j v hj => ?_)
    rw [Addr.add_lit, Nat.zero_add, (show Blk w.drew g 70 cur from hb).cell]
    rw [List.getElem?_take] at hj
    split at hj
    · rw [← hj]; simp
    · cases hj
  have hrun := Lib.run_append_grow_zeros (P := Try.prog) w 37 3 o.type 70 i0 _ .i64 .i64 Try.underlying37 Try.underlying3 hi hz0 (some ⟨g, 0, none⟩) i c _ hold k hk (by omega) hg (by omega) (by rw [hz2]; omega) (by
    have := nextslicecap_le (need := i + k) (old := c) (by omega)
    rw [hz2]
    omega)
  have hG := grownCap_ge w (i + k) c 70
  have hGm := grownCap_le_maxLen w (i + k) c 70 (by unfold maxLen; omega)
  refine wpList_plain hgd fun _ hK => ?_
  unfold Oper.wp execOp
  simp only [ho, resolve, invoke, builtin, Sem.run_bind, Sem.run_pure, Result.andThen_ok, List.map_toArray, List.map_cons, List.map_nil, hs, hx, hrun]
  refine hK _ _ (h _ _ _ (Blk.new w.drew _ _) ?_ hG hGm ?_ ⟨rfl, rfl, rfl, by simp, fun j hj _ => heap_alloc_old w.drew _ hj⟩ (by simp))
  · simp only [Array.size_append, List.size_toArray, size_zeroCells, List.length_take]
    rw [show (Value.agg #[.int .i64 0, .string ByteArray.empty]).cells.size = 2 from rfl]
    have : cur.toList.length = c * 2 := by simpa using hcs
    rw [this]
    omega
  · simp only [Array.toList_append, List.append_assoc]
    rw [List.take_append_of_le_length (by simp [hcs]; omega)]
    simp [List.take_take]
set_option maxHeartbeats 2000000 in
theorem insert_ok (w : World) (base g n c i : Nat) (rs : List (List Value)) (h : OwnR 70 2 w base (some ⟨g, 0, none⟩) n c rs) (h1 : ∀ r ∈ rs, ∀ u ∈ r, u.oneCell' = true) (hi : i ≤ n) (hn : n ≤ 1000) (hbase : base ≤ w.heap.size)
    (vb : Nat) (r : List Value) (hv : Blk w vb 70 r.toArray) (hrl : r.length = 2) (hr1 : ∀ u ∈ r, u.oneCell' = true) (hvb : vb ≠ g) :
    Calls Try.prog 113 #[.slice (some ⟨g, 0, none⟩) n c, .int .i64 i, .slice (some ⟨vb, 0, none⟩) 1 1] w fun e w' => ∃ A' c', e = .returned (.slice A' (n + 1) c') ∧ OwnR 70 2 w' base A' (n + 1) c' (rs.take i ++ r :: rs.drop i) ∧ w.grownBy w' (some g) := by
  obtain ⟨cur, hb, hbg, hnc, hcm, hcs, ht⟩ := h.blk
  have hl := h.2.1
  have hr := h.2.2
  have hfl : rs.flatten.length = n * 2 := by rw [flat_len hr, hl]
  obtain ⟨i0, hi0, hz0, hz1, hz2⟩ := info_parts info_ar
  have cl : cur.toList.length = c * 2 := by simpa using hcs
  have cb : c ≤ 9223372036854775807 := by unfold maxLen at hcm; omega
  have hvl : vb < w.heap.size := hv.lt
  have mixed : Try.prog.follows .mixedOrders = true := by kernel_rfl
  have i2 : (0 : Int) ≤ (i : Int) := by omega
  have i3 : (i : Int) ≤ (n : Int) := by omega
  have i4 : (i : Int) ≤ (c : Int) := by omega
  have ew1 : IntKind.i64.wrap ((n : Int) + 1) = (n : Int) + 1 := IntWalk.i64_in _ (by omega)
  have ew2 : IntKind.i64.wrap ((i : Int) + 1) = (i : Int) + 1 := IntWalk.i64_in _ (by omega)
  by_cases hin : i = n
  · subst hin
    have RUN := Lib.hid (run_app_recs (P := Try.prog) w 37 37 70 base i0 _ 2 24 Try.underlying37 hi0 hz0 hz1 hz2 rfl (by omega) (some ⟨g, 0, none⟩) i c rs h (some ⟨vb, 0, none⟩) 1 1 [r]
      ⟨rfl, Nat.le_refl _, by unfold maxLen; omega, fun _ => ⟨vb, 0, rfl, hvl, fun j q u v hu hq => by
        obtain rfl : j = 0 := by have := (List.getElem?_eq_some_iff.1 hu).1; simp at this; omega
        simp at hu
        subst hu
        simp only [Nat.zero_mul, Nat.zero_add]
        rw [hv.cell]
        simpa using hq⟩⟩ (by intro q hq; simp at hq; subst hq; exact hrl) (by intro q hq; simp at hq; subst hq; exact hr1) (by unfold maxLen; omega) (by omega) hbase)
    clear h ht hl hr hfl cl hb hcs hv
    go_enter Try.func113, Try.ntmps113
    go_wp2_with (at_builtin; refine app_recs w rfl _ _ 37 70 rfl (some ⟨g, 0, none⟩) i c rfl (some ⟨vb, 0, none⟩) 1 1 rfl RUN.out ?_; intro A' c' w1 p1 p2)
    all_goals go_ret
    all_goals exact ⟨A', c', rfl, by rw [List.take_of_length_le (by have := p1.2.1; simp at this; omega), List.drop_of_length_le (by have := p1.2.1; simp at this; omega)]; exact p1, p2⟩
  · have hin' : i < n := by omega
    have e0 : decide ((i : Int) = (n : Int)) = false := decide_eq_false (by omega)
    have e1 : ((i : Int) == (n : Int)) = false := by rw [beq_eq_false_iff_ne]; omega
    obtain ⟨F, hF⟩ : ∃ x, rs.flatten = x := ⟨_, rfl⟩
    rw [hF] at ht hfl
    have nl : (F.drop (i * 2)).length = (n - i) * 2 := by rw [List.length_drop, hfl]; omega
    have n1 : ∀ u ∈ F.drop (i * 2), u.oneCell' = true := by
      intro u hu
      rw [← hF] at hu
      obtain ⟨q, hq1, hq2⟩ := List.mem_flatten.1 (List.mem_of_mem_drop hu)
      exact h1 q hq1 u hq2
    have curF : ∀ j, j < n * 2 → cur[j]? = F[j]? := by
      intro j hj
      rw [← ht, List.getElem?_take, if_pos hj, Array.getElem?_toList]
    have FIN : ∀ (w' : World) (g' c' : Nat) (cur' : Array Value), Blk w' g' 70 cur' → base ≤ g' → n + 1 ≤ c' → c' ≤ maxLen → cur'.size = c' * 2 → cur'.toList.take ((n + 1) * 2) = F.take (i * 2) ++ r ++ F.drop (i * 2) → OwnR 70 2 w' base (some ⟨g', 0, none⟩) (n + 1) c' (rs.take i ++ r :: rs.drop i) := by
      intro w' g' c' cur' k1 k2 k3 k4 k5 k6
      refine OwnR.ofBlk k1 k2 k3 k4 k5 ?_ (by simp; omega) (fun q hq => ?_)
      · rw [k6, List.flatten_append, List.flatten_cons, flat_take hr, flat_drop hr, hF]
        simp
      · rcases List.mem_append.1 hq with hq | hq
        · exact hr q (List.mem_of_mem_take hq)
        · rcases List.mem_cons.1 hq with rfl | hq
          · exact hrl
          · exact hr q (List.mem_of_mem_drop hq)
    have FI2 := Lib.hid FIN
    have mn : Nat.min (n + 1 - i) (n - i) = n - i := by show min _ _ = _; omega
    have mn1 : Nat.min 1 (n + 1 - i) = 1 := by show min _ _ = _; omega
    by_cases hroom : n + 1 ≤ c
    · have e2 : decide ((c : Int) < (n : Int) + 1) = false := decide_eq_false (by omega)
      have hov := fun (lb cb' : Nat) => overlaps_no w ⟨vb, 0, none⟩ ⟨g, (i + 1) * 2, none⟩ 1 1 lb cb' hvb _ _ _ _ hv.shape hb.shape (by rw [hcs]; omega) (hv.frozen 0) (hv.frozen _)
      have bD : Blk w.drew g 70 cur := hb
      have b1 := Blk.cells (F.drop (i * 2)) ((i + 1) * 2) bD (by rw [nl, hcs]; omega)
      have hcp1 := fun ty dc sc => run_copy_blk (P := Try.prog) (w := w.drew) 37 37 ty 70 2 Try.underlying37 size_ar bD ((i + 1) * 2) (n - i) dc ⟨g, i * 2, none⟩ (n + 1 - i) sc (F.drop (i * 2)) (by rw [nl, mn]) (fun j v hj => by
        have hjl := (List.getElem?_eq_some_iff.1 hj).1
        rw [Addr.add_lit, bD.cell, curF _ (by omega), ← List.getElem?_drop]
        exact hj) (by rw [nl, hcs]; omega) n1
      have g1 := grown_setCells w.drew g ((i + 1) * 2) (F.drop (i * 2))
      obtain ⟨w1, hw1⟩ : ∃ x, w.drew.setCells g ((i + 1) * 2) (F.drop (i * 2)) = x := ⟨_, rfl⟩
      rw [hw1] at b1 g1 hcp1
      obtain ⟨cur1, hc1⟩ : ∃ x, (cur.toList.take ((i + 1) * 2) ++ F.drop (i * 2) ++ cur.toList.drop ((i + 1) * 2 + (F.drop (i * 2)).length)).toArray = x := ⟨_, rfl⟩
      rw [hc1] at b1
      have l1 : cur1.toList = cur.toList.take ((i + 1) * 2) ++ F.drop (i * 2) ++ cur.toList.drop ((i + 1) * 2 + (F.drop (i * 2)).length) := by rw [← hc1]
      have s1 : cur1.toList.length = c * 2 := by
        rw [l1]
        simp only [List.length_append, List.length_take, List.length_drop, cl, hfl]
        omega
      have s1' : cur1.size = c * 2 := by simpa using s1
      have v1 : Blk w1 vb 70 r.toArray := (show Blk w.drew vb 70 r.toArray from hv).kept g1 (by simpa using hvb)
      have b2 := Blk.cells r (i * 2) b1 (by rw [hrl]; omega)
      have hcp2 := fun ty dc => run_copy_blk (P := Try.prog) (w := w1) 37 37 ty 70 2 Try.underlying37 size_ar b1 (i * 2) (n + 1 - i) dc ⟨vb, 0, none⟩ 1 1 r (by rw [hrl, mn1]) (fun j v hj => by
        rw [Addr.add_lit, Nat.zero_add, v1.cell]
        simpa using hj) (by rw [hrl]; omega) hr1
      have g2 := grown_setCells w1 g (i * 2) r
      obtain ⟨w2, hw2⟩ : ∃ x, w1.setCells g (i * 2) r = x := ⟨_, rfl⟩
      rw [hw2] at b2 g2 hcp2
      have DONE := Lib.hid (FI2.out w2 g c _ b2 hbg hroom hcm (by
          simp only [List.size_toArray, List.length_append, List.length_take, List.length_drop, s1, hrl]
          omega) (by
          rw [show ∀ l : List Value, l.toArray.toList = l from fun l => rfl, l1, hrl]
          have a1 : (cur.toList.take ((i + 1) * 2) ++ F.drop (i * 2) ++ cur.toList.drop ((i + 1) * 2 + (F.drop (i * 2)).length)).take (i * 2) = F.take (i * 2) := by
            rw [List.append_assoc, List.take_append_of_le_length (by rw [List.length_take, cl]; omega), List.take_take, Nat.min_eq_left (by omega), ← ht, List.take_take, Nat.min_eq_left (by omega)]
          have a2 : (cur.toList.take ((i + 1) * 2) ++ F.drop (i * 2) ++ cur.toList.drop ((i + 1) * 2 + (F.drop (i * 2)).length)).drop (i * 2 + 2) = F.drop (i * 2) ++ cur.toList.drop ((i + 1) * 2 + (F.drop (i * 2)).length) := by
            rw [List.append_assoc, List.drop_append, List.drop_of_length_le (by rw [List.length_take, cl]; omega), List.nil_append, List.length_take, cl, show i * 2 + 2 - min ((i + 1) * 2) (c * 2) = 0 by omega, List.drop_zero]
          rw [a1, a2, ← List.append_assoc, List.take_append_of_le_length (by simp only [List.length_append, List.length_take, hfl, hrl, nl]; omega), List.take_of_length_le (by simp only [List.length_append, List.length_take, hfl, hrl, nl]; omega)]))
      have GR := Lib.hid (show w.grownBy w2 (some g) from grown_trans (grown_trans (show w.grownBy w.drew (some g) from ⟨rfl, rfl, rfl, Nat.le_refl _, fun _ _ _ => rfl⟩) g1) g2)
      have i5 : (n : Int) + 1 ≤ (c : Int) := by omega
      have i6 : (i : Int) + 1 ≤ (n : Int) + 1 := by omega
      have i7 : (i : Int) ≤ (n : Int) + 1 := by omega
      have i8 : (0 : Int) ≤ (i : Int) + 1 := by omega
      have i9 : (0 : Int) ≤ (n : Int) + 1 := by omega
      have c1 : ¬ c = i + 1 := by omega
      have c2 : ¬ c = i := by omega
      have C1 := Lib.hid hcp1
      have C2 := Lib.hid hcp2
      have OV := Lib.hid hov
      clear h ht hl hr hfl cl hb hcs hv hF nl n1 curF FIN FI2 bD b1 g1 hw1 hc1 l1 s1 s1' v1 b2 g2 hw2 hcp1 hcp2 hov
      go_enter Try.func113, Try.ntmps113
      go_wp2_with (simp only [OV.out])
      go_region_law_o (refine stp_copy rfl (.tmp 73) (.tmp 76) 37 37 rfl (v := .slice (some ⟨g, (i + 1) * 2, none⟩) (n - i) (c - (i + 1))) (u := .slice (some ⟨g, i * 2, none⟩) (n + 1 - i) (c - i)) (by simp [Act.eval, Act.put]) (by simp [Act.eval, Act.put]) (C1.out _ _ _) ?_)
      have C3 := C2.out 3 (c - i)
      go_wp2_with fail
      go_ret
      exact ⟨_, c, rfl, DONE.out, GR.out⟩
    · obtain rfl : c = n := by omega
      have e2 : decide ((c : Int) < (c : Int) + 1) = true := decide_eq_true (by omega)
      have ek : IntKind.i64.wrap ((c : Int) + 1 - (i : Int)) = ((c + 1 - i : Nat) : Int) := by rw [IntWalk.i64_in _ (by omega)]; omega
      have HB := Lib.hid hb
      have HV := Lib.hid hv
      have CF := Lib.hid curF
      have HT := Lib.hid ht
      have HFL := Lib.hid hfl
      have NL := Lib.hid nl
      have N1 := Lib.hid n1
      clear h ht hl hr hfl cl hb hv hF nl n1 curF FIN
      go_enter Try.func113, Try.ntmps113
      have i9 : (c : Int) + 1 ≤ 9223372036854775807 := by omega
      have c2 : ¬ c = i := by omega
      have j7 : (i : Int) ≤ (c : Int) + 1 := by omega
      have j6 : (i : Int) + 1 ≤ (c : Int) + 1 := by omega
      have j8 : (0 : Int) ≤ (i : Int) + 1 := by omega
      go_wp2_with (at_builtin; refine app_make w rfl _ _ rfl g i c (c + 1 - i) (c + 1) (by omega) cur HB.out (by omega) hcs rfl rfl (by omega) (by omega) (by omega) ?_; intro w1 G cur1 q1 q2 q3 q4 q5 q6 q7; have Q1 := Lib.hid q1; have Q2 := Lib.hid q2; have Q4 := Lib.hid q4; have Q5 := Lib.hid q5; have Q6 := Lib.hid q6; have G1 : ¬ G = i := (by omega); have G2 : ¬ G = i + 1 := (by omega); have G3 : (i : Int) ≤ (G : Int) := (by omega); have G4 : (c : Int) + 1 ≤ (G : Int) := (by omega); have G5 : (i : Int) + 1 ≤ (G : Int) := (by omega); have v1 := HV.out.kept q6 (by simp); have CP1 := run_copy_blk (P := Try.prog) (w := w1) 37 37 3 70 2 Try.underlying37 size_ar q1 (i * 2) (c + 1 - i) (G - i) ⟨vb, 0, none⟩ 1 1 r (by rw [hrl, mn1]) (fun j v hj => (by rw [Addr.add_lit, Nat.zero_add, v1.cell]; simpa using hj)) (by rw [hrl]; omega) hr1; have W2 := Lib.hid (show ∃ x, w1.setCells w.heap.size (i * 2) r = x from ⟨_, rfl⟩); obtain ⟨w2, hw2⟩ := W2.out; rw [hw2] at CP1; have HW2 := Lib.hid hw2; clear q1 q2 q4 q5 q6 q7 v1 W2 hw2)
      clear CP1
      have hNg : w.heap.size ≠ g := fun e => by have := HB.out.lt; omega
      have b2 := Blk.cells r (i * 2) Q1.out (by have := Q2.out; rw [hrl]; omega)
      have g2 := grown_setCells w1 w.heap.size (i * 2) r
      rw [HW2.out] at b2 g2
      have e1 : cur1.toList.length = G * 2 := by simpa using Q2.out
      obtain ⟨cur2, hc2⟩ : ∃ x, (cur1.toList.take (i * 2) ++ r ++ cur1.toList.drop (i * 2 + r.length)).toArray = x := ⟨_, rfl⟩
      rw [hc2] at b2
      have l2 : cur2.toList = cur1.toList.take (i * 2) ++ r ++ cur1.toList.drop (i * 2 + r.length) := by rw [← hc2]
      have s2 : cur2.toList.length = G * 2 := by
        rw [l2]
        simp only [List.length_append, List.length_take, List.length_drop, e1, hrl]
        omega
      have s2' : cur2.size = G * 2 := by simpa using s2
      have t2 : cur2.toList.take ((i + 1) * 2) = F.take (i * 2) ++ r := by
        rw [l2, List.take_append_of_le_length (by simp only [List.length_append, List.length_take, e1, hrl]; omega), List.take_of_length_le (by simp only [List.length_append, List.length_take, e1, hrl]; omega), Q5.out, ← HT.out, List.take_take, Nat.min_eq_left (by omega)]
      have bg : Blk w2 g 70 cur := (HB.out.kept Q6.out (by simp)).kept g2 (by simpa using fun e => hNg e.symm)
      have bD : Blk w2.drew w.heap.size 70 cur2 := b2
      have bgD : Blk w2.drew g 70 cur := bg
      have NLo := NL.out
      have HFLo := HFL.out
      have mn2 : Nat.min (c - i) (c - i) = c - i := by show min _ _ = _; omega
      have CP2 := fun ty => run_copy_blk (P := Try.prog) (w := w2.drew) 37 37 ty 70 2 Try.underlying37 size_ar bD ((i + 1) * 2) (c - i) (G - (i + 1)) ⟨g, i * 2, none⟩ (c - i) (c - i) (F.drop (i * 2)) (by rw [NLo, mn2]) (fun j v hj => by
        have hjl := (List.getElem?_eq_some_iff.1 hj).1
        rw [Addr.add_lit, bgD.cell, CF.out _ (by omega), ← List.getElem?_drop]
        exact hj) (by rw [NLo, s2']; omega) N1.out
      have b3 := Blk.cells (F.drop (i * 2)) ((i + 1) * 2) bD (by rw [NLo, s2']; omega)
      have g3 := grown_setCells w2.drew w.heap.size ((i + 1) * 2) (F.drop (i * 2))
      obtain ⟨w3, hw3⟩ : ∃ x, w2.drew.setCells w.heap.size ((i + 1) * 2) (F.drop (i * 2)) = x := ⟨_, rfl⟩
      rw [hw3] at b3 g3 CP2
      have DONE := Lib.hid (FI2.out w3 w.heap.size G _ b3 hbase q3 Q4.out (by
          simp only [List.size_toArray, List.length_append, List.length_take, List.length_drop, s2, HFLo]
          omega) (by
          rw [show ∀ l : List Value, l.toArray.toList = l from fun l => rfl, t2, List.take_append_of_le_length (by simp only [List.length_append, List.length_take, List.length_drop, HFLo, hrl]; omega), List.take_of_length_le (by simp only [List.length_append, List.length_take, List.length_drop, HFLo, hrl]; omega)]))
      have GR := Lib.hid (show w.grownBy w3 (some g) from only_new (only_new (only_new (show w.grownBy w1 (some g) from ⟨Q6.out.os, Q6.out.tape, Q6.out.output, Q6.out.size, fun k hk _ => Q6.out.block k hk (by simp)⟩) g2 (fun x hx => by injection hx with hx; omega)) (show w2.grownBy w2.drew none from ⟨rfl, rfl, rfl, Nat.le_refl _, fun _ _ _ => rfl⟩) (fun x hx => by cases hx)) g3 (fun x hx => by injection hx with hx; omega))
      have C2 := Lib.hid CP2
      clear b2 g2 l2 s2 s2' t2 bg bD bgD b3 g3 hw3 hc2 e1 CP2
      go_region_law_o (refine stp_copy rfl (.tmp 50) (.tmp 53) 37 37 rfl (v := .slice (some ⟨w.heap.size, (i + 1) * 2, none⟩) (c - i) (G - (i + 1))) (u := .slice (some ⟨g, i * 2, none⟩) (c - i) (c - i)) (by simp [Act.eval, Act.put]) (by simp [Act.eval, Act.put]) (C2.out _) ?_)
      go_wp2_with fail
      go_ret
      exact ⟨_, G, rfl, DONE.out, GR.out⟩
end Go.Proofs.Ytcoladhppbknnaa
