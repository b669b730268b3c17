/- New assemblies: the program's and the reference's. -/
import Derived.Test.YtcoladhppbknnaaStat
import Derived.Test.YtcoladhppbknnaaRws
import Derived.Test.YtcoladhppbknnaaApp
namespace Go.Proofs.Ytcoladhppbknnaa
set_option linter.unusedVariables false
set_option linter.unusedSimpArgs false
set_option maxRecDepth 100000
open Go.RowKit Go.Deep
/-- Records of the call's own, in a range of blocks. -/
structure RR (t s lo hi : Nat) (w : World) (A : Option Addr) (n c : Nat) (rs : List (List Value)) : Prop where
  own : OwnR t s w lo A n c rs
  top : ∀ g, (Value.slice A n c).ownBlock = some g → g < hi
section
variable {t s lo hi lo' hi' : Nat} {w w' : World} {A : Option Addr} {n c : Nat} {rs : List (List Value)}
theorem RR.mk' (h : OwnR t s w lo A n c rs) : RR t s lo w.heap.size w A n c rs := ⟨h, fun g hg => (h.block g hg).2⟩
theorem RR.below (h : RR t s lo hi w A n c rs) (hb : Below w.heap.size w w') : RR t s lo hi w' A n c rs := ⟨h.own.below hb, h.top⟩
theorem RR.only (h : RR t s lo hi w A n c rs) (o : Only lo' hi' w w') (hd : hi ≤ lo' ∨ hi' ≤ lo) : RR t s lo hi w' A n c rs := by
  refine ⟨⟨own_only h.own.1 fun g hg => o.block g (h.own.block g hg).2 ?_, h.own.2⟩, h.top⟩
  have h1 := (h.own.block g hg).1
  have h2 := h.top g hg
  omega
theorem RR.wide (h : RR t s lo hi w A n c rs) (h1 : lo' ≤ lo) (h2 : hi ≤ hi') : RR t s lo' hi' w A n c rs := ⟨h.own.mono h1, fun g hg => Nat.lt_of_lt_of_le (h.top g hg) h2⟩
end
theorem OwnR.farS {t s : Nat} {w : World} {base : Nat} {A : Option Addr} {n c : Nat} {rs : List (List Value)} (h : OwnR t s w base A n c rs) {g : Nat} (hg : g < base) (j : Nat) (u : Value) : OwnR t s (w.setCell ⟨g, j, none⟩ u) base A n c rs := by
  refine h.kept (row := some g) ⟨rfl, rfl, rfl, by simp [World.setCell], fun k _ hk => heap_setCell_other w ⟨g, j, none⟩ k u (fun e => hk (by simp [e]))⟩ ?_
  cases hv : (Value.slice A n c).ownBlock with
  | none => exact .inl rfl
  | some b =>
    refine .inr fun e => ?_
    have := (h.block b hv).1
    injection e with e
    omega
theorem Cs.only {lo hi : Nat} {w w' : World} {g : Nat} {l : List Value} (h : Cs w g l) (o : Only lo hi w w') (hd : g < lo ∨ hi ≤ g) : Cs w' g l :=
  ⟨Nat.lt_of_lt_of_le h.1 o.size, fun j v hj => ⟨(World.cell?_of_block (w := w) (o.block g h.1 hd)).trans (h.2 j v hj).1, (World.frozen?_of_block (w := w) (o.block g h.1 hd)).trans (h.2 j v hj).2⟩⟩
/-- append of records that are read. -/
theorem run_app_recs {P : Program} (w : World) (ty t e : TypeId) (base : Nat) (i : TypeInfo) (z : Value) (s bytes : Nat) (ht : P.underlying t = some (.slice e)) (hi : P.info? e = some i) (hz : i.zero = some z)
    (hsize : i.size = s) (hby : i.bytes = bytes) (hzs : z.cells.size = s) (hsz : 0 < s)
    (A : Option Addr) (n c : Nat) (rs : List (List Value)) (hown : OwnR e s w base A n c rs)
    (B : Option Addr) (m d : Nat) (qs : List (List Value)) (hr : Recs s w B m d qs) (hql : ∀ r ∈ qs, r.length = s) (hr1 : ∀ r ∈ qs, ∀ u ∈ r, u.oneCell' = true)
    (h63 : n + m ≤ maxLen) (hbytes : (n + m) * bytes ≤ 140737488355328) (hbase : base ≤ w.heap.size) :
    ∃ A' c' w', (Builtin.append_ #[t, t] ty #[.slice A n c, .slice B m d]).run P w = .ok (.slice A' (n + m) c') w' ∧ OwnR e s w' base A' (n + m) c' (rs ++ qs) ∧ w.grownBy w' (Value.slice A n c).ownBlock := by
  rcases B with _ | ad
  · have hm0 : m = 0 := by
      rcases Nat.eq_zero_or_pos m with h0 | h0
      · exact h0
      · obtain ⟨b, off, h, _⟩ := hr.2.2.2 h0
        cases h
    subst hm0
    have hq : qs = [] := List.eq_nil_of_length_eq_zero hr.1
    subst hq
    exact ⟨A, c, w, run_app_nil (P := P) w base t ty e i s ht hi (.slice A n c) n rs.flatten hown.1 d, by simpa using hown, World.grownBy.refl w _⟩
  · have hcells : ∀ j u, qs.flatten[j]? = some u → w.cell? (ad.add j) = some u := by
      intro j u hu
      have hjl : j < m * s := by have := (List.getElem?_eq_some_iff.1 hu).1; rw [flat_len hql, hr.1] at this; exact this
      have hm : 0 < m := by
        rcases Nat.eq_zero_or_pos m with h0 | h0
        · subst h0; omega
        · exact h0
      obtain ⟨b, off, hA, _, hc⟩ := hr.2.2.2 hm
      simp only [Option.some.injEq] at hA
      subst hA
      have hd : j / s < m := Nat.div_lt_of_lt_mul (by rw [Nat.mul_comm]; exact hjl)
      have hq : qs[j / s]? = some (qs[j / s]'(by rw [hr.1]; exact hd)) := List.getElem?_eq_getElem _
      obtain ⟨r, hq'⟩ : ∃ r, qs[j / s]? = some r := ⟨_, hq⟩
      have hrl := hql r (List.mem_of_getElem? hq')
      have hms : j % s < s := Nat.mod_lt _ hsz
      obtain ⟨v, hv⟩ : ∃ v, r[j % s]? = some v := ⟨_, List.getElem?_eq_getElem (by omega)⟩
      have k1 := flat_at hql hq' hv
      rw [Nat.div_add_mod'] at k1
      rw [k1] at hu
      injection hu with hu
      subst hu
      have := hc _ _ _ _ hq' hv
      rw [Addr.add_lit, ← this]
      congr 2
      rw [Nat.add_assoc, Nat.div_add_mod']
    obtain ⟨v', w', hrun, h2, h3, _, _⟩ := run_append_own_at (P := P) w base t ty e i z s bytes ht hi hz hsize hby hzs hsz _ n rs.flatten hown.1 ad m d qs.flatten (by rw [flat_len hql, hr.1]) hcells (by
      intro u hu
      obtain ⟨r, hr', hu'⟩ := List.mem_flatten.1 hu
      exact hr1 r hr' u hu') h63 hbytes hbase
    have e2 : ∃ A' c', v' = .slice A' (n + m) c' := by
      rcases h2.2 with ⟨rfl, h0⟩ | ⟨g, cap, cur, rfl, hr⟩
      · exact ⟨none, 0, by rw [h0]⟩
      · exact ⟨_, _, rfl⟩
    obtain ⟨A', c', rfl⟩ := e2
    refine ⟨A', c', w', hrun, ⟨by simpa using h2, by rw [List.length_append, hown.2.1, hr.1], fun q hq => ?_⟩, h3⟩
    rcases List.mem_append.1 hq with hq | hq
    · exact hown.2.2 q hq
    · exact hql q hq
theorem app_recs {P : Program} (w : World) {ops : Array Oper} {rest : List Oper} {o : Oper} {a : Act} {Q : Exit → Act → World → Prop} (hgd : o.guard = none) (sl x : Operand) (t e : TypeId)
    (ho : o.op = .call { callee := .builtin .append, args := #[sl, x], argTypes := #[t, t] })
    (A : Option Addr) (n : Nat) (c : Nat) (hs : a.eval sl = .slice A n c) (B : Option Addr) (m d : Nat) (hx : a.eval x = .slice B m d) {base s : Nat} {rs qs : List (List Value)}
    (hrun : ∃ A' c' w', (Builtin.append_ #[t, t] o.type #[.slice A n c, .slice B m d]).run P w = .ok (.slice A' (n + m) c') w' ∧ OwnR e s w' base A' (n + m) c' (rs ++ qs) ∧ w.grownBy w' (Value.slice A n c).ownBlock)
    (h : ∀ A' c' w1, OwnR e s w1 base A' (n + m) c' (rs ++ qs) → w.grownBy w1 (Value.slice A n c).ownBlock → wpList P ops Q rest (a.put o.dst (.slice A' (n + m) c')) w1) :
    wpList P ops Q (o :: rest) a w := by
  obtain ⟨A', c', w', hrun, h2, h3⟩ := hrun
  refine wpList_plain hgd fun _ hK => ?_
  unfold Oper.wp execOp
  simp only [ho, resolve, invoke, builtin, Sem.run_bind, Sem.run_pure, Result.andThen_ok, List.map_toArray, List.map_cons, List.map_nil, hs, hx, hrun]
  exact hK _ _ (h A' c' w' h2 h3)
theorem step_app_recs {P : Program} (w : World) {ops : Array Oper} {o : Oper} {a : Act} {K : Act → World → Prop} {Q : Exit → Act → World → Prop} {E : Prop} (hgd : o.guard = none) (sl x : Operand) (t e : TypeId)
    (ho : o.op = .call { callee := .builtin .append, args := #[sl, x], argTypes := #[t, t] })
    (A : Option Addr) (n : Nat) (c : Nat) (hs : a.eval sl = .slice A n c) (B : Option Addr) (m d : Nat) (hx : a.eval x = .slice B m d) {base s : Nat} {rs qs : List (List Value)}
    (hrun : ∃ A' c' w', (Builtin.append_ #[t, t] o.type #[.slice A n c, .slice B m d]).run P w = .ok (.slice A' (n + m) c') w' ∧ OwnR e s w' base A' (n + m) c' (rs ++ qs) ∧ w.grownBy w' (Value.slice A n c).ownBlock)
    (h : ∀ A' c' w1, OwnR e s w1 base A' (n + m) c' (rs ++ qs) → w.grownBy w1 (Value.slice A n c).ownBlock → K (a.put o.dst (.slice A' (n + m) c')) w1) :
    if Region.wanted o (yielded ops a.tmps) = true then Oper.wp P o a w K Q else E := by
  obtain ⟨A', c', w', hrun, h2, h3⟩ := hrun
  have hw : Region.wanted o (yielded ops a.tmps) = true := by simp [Region.wanted, hgd]
  rw [if_pos hw]
  unfold Oper.wp execOp
  simp only [ho, resolve, invoke, builtin, Sem.run_bind, Sem.run_pure, Result.andThen_ok, List.map_toArray, List.map_cons, List.map_nil, hs, hx, hrun]
  exact h A' c' w' h2 h3
theorem reps_ok {M : Nat} : ∀ r ∈ List.replicate M [Value.slice none 0 0], ∃ X c', r = [.slice X 0 c'] := by
  intro r hr
  rw [List.eq_of_mem_replicate hr]
  exact ⟨none, 0, rfl⟩
theorem made_reps (w : World) (M : Nat) (hM : M ≤ 1048576) : OwnR 22 1 (w.alloc (.cells (madeCells #[.slice none 0 0] M) 22)) w.heap.size (some ⟨w.heap.size, 0, none⟩) M M (List.replicate M [.slice none 0 0]) := by
  have := ownR_lits (t := 22) (s := 1) (rs := List.replicate M [.slice none 0 0]) w (by intro r hr; rw [List.eq_of_mem_replicate hr]; rfl) (by rw [List.length_replicate]; unfold maxLen; omega)
  rw [List.length_replicate] at this
  rwa [show (List.replicate M [Value.slice none 0 0]).flatten.toArray = madeCells #[.slice none 0 0] M by
    apply Array.toList_inj.1
    rw [List.toList_toArray, toList_madeCells_one]
    simp] at this
theorem made_none (w : World) : OwnR 70 2 (w.alloc (.cells #[] 70)) w.heap.size (some ⟨w.heap.size, 0, none⟩) 0 0 [] := ownR_lits (t := 70) (s := 2) (rs := []) w (by simp) (by simp)
def selI (b : Bool) (x : Int) : Int := if b then x else 0
def selN (b : Bool) (x : Int) : Nat := if b then x.toNat else 0
def selL (b : Bool) (x : List Ar) : List Ar := if b then x else []
def okN (mb ru : Int) (rs : List Ar) : Bool := inR mb 1 12 && inR ru 0 2 && staB rs
/-- An assembly's value: empty lists of trust, and a base. -/
def As (lo hi : Nat) (w : World) (rl : Int) (M : Nat) (rs : List Ar) (v : Value) : Prop :=
  ∃ TA tc BA bc trs, v = .agg #[.int .i64 0, .int .i64 rl, .slice TA M tc, .slice BA rs.length bc, .slice none 0 0, .slice none 0 0] ∧ RR 22 1 lo hi w TA M tc trs ∧ (∀ r ∈ trs, ∃ X c', r = [.slice X 0 c']) ∧ RR 70 2 lo hi w BA rs.length bc (rs.map Ar.vals)
theorem as_zero (lo hi : Nat) (w : World) : As lo hi w 0 0 [] (.agg #[.int .i64 0, .int .i64 0, .slice none 0 0, .slice none 0 0, .slice none 0 0, .slice none 0 0]) :=
  ⟨none, 0, none, 0, [], rfl, ⟨ownR_nil _ _ _ _, fun g hg => by simp [Value.ownBlock] at hg⟩, by simp, ⟨ownR_nil _ _ _ _, fun g hg => by simp [Value.ownBlock] at hg⟩⟩
theorem ar_one {rs : List Ar} : ∀ r ∈ rs.map Ar.vals, ∀ u ∈ r, u.oneCell' = true := by
  intro r hr u hu
  obtain ⟨e, _, rfl⟩ := List.mem_map.1 hr
  simp [Ar.vals] at hu
  rcases hu with rfl | rfl <;> rfl
theorem ar_two {rs : List Ar} : ∀ r ∈ rs.map Ar.vals, r.length = 2 := by
  intro r hr
  obtain ⟨e, _, rfl⟩ := List.mem_map.1 hr
  rfl
theorem isRule_any (x : Int) (w : World) : Calls Try.prog 55 #[.int .i64 x] w fun e w' => e = .returned (.bool (inR x 0 2)) ∧ w = w' := by
  go_enter Try.func55, Try.ntmps55
  go_wp2_with fail
  refine (within_any x 0 2 _).mono ?_
  rintro e w1 ⟨rfl, rfl⟩
  go_wp2_with fail
  go_ret
  exact ⟨rfl, rfl⟩
theorem l02Rule_any (x : Int) (w : World) : Calls Try.prog 51 #[.int .i64 x] w fun e w' => e = .returned (.bool (inR x 0 2)) ∧ w = w' := by
  go_enter Try.func51, Try.ntmps51
  go_wp2_with fail
  refine (l00In_any x 0 2 _).mono ?_
  rintro e w1 ⟨rfl, rfl⟩
  go_wp2_with fail
  go_ret
  exact ⟨rfl, rfl⟩
set_option maxHeartbeats 1000000 in
theorem NewAssembly_any (mb ru : Int) (A : Option Addr) (n c : Nat) (rs : List Ar) (w : World) (h : Ars w A n c rs) :
    Calls Try.prog 16 #[.int .i64 mb, .int .i64 ru, .slice A n c] w fun e w' => ∃ v, e = .returned (.tuple #[v, .bool (okN mb ru rs)]) ∧ As w.heap.size w'.heap.size w' (selI (okN mb ru rs) ru) (selN (okN mb ru rs) mb) (selL (okN mb ru rs) rs) v ∧ Below w.heap.size w w' := by
  obtain rfl : rs.length = n := h.len
  have n64 := h.short
  have ba := bel_alloc w (.cells #[.int .i64 0, .int .i64 0, .slice none 0 0, .slice none 0 0, .slice none 0 0, .slice none 0 0] 41)
  have H := Lib.hid (h.below ba)
  have BA := Lib.hid ba
  have C := Lib.hid (Cs.new w [.int .i64 0, .int .i64 0, .slice none 0 0, .slice none 0 0, .slice none 0 0, .slice none 0 0] 41)
  clear h ba
  go_enter Try.func16, Try.ntmps16
  go_wp2_with fail
  obtain ⟨w0, hw0⟩ : ∃ x, w.alloc (.cells #[.int .i64 0, .int .i64 0, .slice none 0 0, .slice none 0 0, .slice none 0 0, .slice none 0 0] 41) = x := ⟨_, rfl⟩
  rw [hw0] at C BA H
  rw [hw0]
  clear hw0
  refine (within_any mb 1 12 _).mono ?_
  rintro e w1 ⟨rfl, rfl⟩
  cases hin : inR mb 1 12
  · have O := Lib.hid (show okN mb ru rs = false by unfold okN; rw [hin]; rfl)
    clear hin
    have y0 := C.out.cell 0 rfl
    have f0 := C.out.free 0 rfl
    have y1 := C.out.cell 1 rfl
    have f1 := C.out.free 1 rfl
    have y2 := C.out.cell 2 rfl
    have f2 := C.out.free 2 rfl
    have y3 := C.out.cell 3 rfl
    have f3 := C.out.free 3 rfl
    have y4 := C.out.cell 4 rfl
    have f4 := C.out.free 4 rfl
    have y5 := C.out.cell 5 rfl
    have f5 := C.out.free 5 rfl
    have D9 := Lib.hid ((((((C.out.set 0 (.int .i64 0) (by simp)).set 1 (.int .i64 0) (by simp)).set 2 (.slice none 0 0) (by simp)).set 3 (.slice none 0 0) (by simp)).set 4 (.slice none 0 0) (by simp)).set 5 (.slice none 0 0) (by simp))
    have B9 := Lib.hid ((((((BA.out.setCell (p := ⟨w.heap.size, 0, none⟩) (Nat.le_refl _) (.int .i64 0)).setCell (p := ⟨w.heap.size, 1, none⟩) (Nat.le_refl _) (.int .i64 0)).setCell (p := ⟨w.heap.size, 2, none⟩) (Nat.le_refl _) (.slice none 0 0)).setCell (p := ⟨w.heap.size, 3, none⟩) (Nat.le_refl _) (.slice none 0 0)).setCell (p := ⟨w.heap.size, 4, none⟩) (Nat.le_refl _) (.slice none 0 0)).setCell (p := ⟨w.heap.size, 5, none⟩) (Nat.le_refl _) (.slice none 0 0))
    go_wp2_with fail
    obtain ⟨w9, hw9⟩ : ∃ x, ((((((w0.setCell ⟨w.heap.size, 0, none⟩ (.int .i64 0)).setCell ⟨w.heap.size, 1, none⟩ (.int .i64 0)).setCell ⟨w.heap.size, 2, none⟩ (.slice none 0 0)).setCell ⟨w.heap.size, 3, none⟩ (.slice none 0 0)).setCell ⟨w.heap.size, 4, none⟩ (.slice none 0 0)).setCell ⟨w.heap.size, 5, none⟩ (.slice none 0 0)) = x := ⟨_, rfl⟩
    rw [hw9] at D9 B9 ⊢
    clear hw9
    have x0 := D9.out.cell 0 (v := .int .i64 0) (by simp)
    have x1 := D9.out.cell 1 (v := .int .i64 0) (by simp)
    have x2 := D9.out.cell 2 (v := .slice none 0 0) (by simp)
    have x3 := D9.out.cell 3 (v := .slice none 0 0) (by simp)
    have x4 := D9.out.cell 4 (v := .slice none 0 0) (by simp)
    have x5 := D9.out.cell 5 (v := .slice none 0 0) (by simp)
    rw [O.out]
    exact bodyPost_ret (v := .tuple #[.agg #[.int .i64 0, .int .i64 0, .slice none 0 0, .slice none 0 0, .slice none 0 0, .slice none 0 0], .bool false]) (by simp [results, Try.results16, go_sem, x0, x1, x2, x3, x4, x5]) rfl ⟨_, rfl, as_zero _ _ _, B9.out⟩
  have hmb := inR_true.1 hin
  go_wp2_with fail
  refine (isRule_any ru _).mono ?_
  rintro e w1 ⟨rfl, rfl⟩
  cases hru : inR ru 0 2
  · have O := Lib.hid (show okN mb ru rs = false by unfold okN; rw [hin, hru]; rfl)
    clear hin hru
    have y0 := C.out.cell 0 rfl
    have f0 := C.out.free 0 rfl
    have y1 := C.out.cell 1 rfl
    have f1 := C.out.free 1 rfl
    have y2 := C.out.cell 2 rfl
    have f2 := C.out.free 2 rfl
    have y3 := C.out.cell 3 rfl
    have f3 := C.out.free 3 rfl
    have y4 := C.out.cell 4 rfl
    have f4 := C.out.free 4 rfl
    have y5 := C.out.cell 5 rfl
    have f5 := C.out.free 5 rfl
    have D9 := Lib.hid ((((((C.out.set 0 (.int .i64 0) (by simp)).set 1 (.int .i64 0) (by simp)).set 2 (.slice none 0 0) (by simp)).set 3 (.slice none 0 0) (by simp)).set 4 (.slice none 0 0) (by simp)).set 5 (.slice none 0 0) (by simp))
    have B9 := Lib.hid ((((((BA.out.setCell (p := ⟨w.heap.size, 0, none⟩) (Nat.le_refl _) (.int .i64 0)).setCell (p := ⟨w.heap.size, 1, none⟩) (Nat.le_refl _) (.int .i64 0)).setCell (p := ⟨w.heap.size, 2, none⟩) (Nat.le_refl _) (.slice none 0 0)).setCell (p := ⟨w.heap.size, 3, none⟩) (Nat.le_refl _) (.slice none 0 0)).setCell (p := ⟨w.heap.size, 4, none⟩) (Nat.le_refl _) (.slice none 0 0)).setCell (p := ⟨w.heap.size, 5, none⟩) (Nat.le_refl _) (.slice none 0 0))
    go_wp2_with fail
    obtain ⟨w9, hw9⟩ : ∃ x, ((((((w0.setCell ⟨w.heap.size, 0, none⟩ (.int .i64 0)).setCell ⟨w.heap.size, 1, none⟩ (.int .i64 0)).setCell ⟨w.heap.size, 2, none⟩ (.slice none 0 0)).setCell ⟨w.heap.size, 3, none⟩ (.slice none 0 0)).setCell ⟨w.heap.size, 4, none⟩ (.slice none 0 0)).setCell ⟨w.heap.size, 5, none⟩ (.slice none 0 0)) = x := ⟨_, rfl⟩
    rw [hw9] at D9 B9 ⊢
    clear hw9
    have x0 := D9.out.cell 0 (v := .int .i64 0) (by simp)
    have x1 := D9.out.cell 1 (v := .int .i64 0) (by simp)
    have x2 := D9.out.cell 2 (v := .slice none 0 0) (by simp)
    have x3 := D9.out.cell 3 (v := .slice none 0 0) (by simp)
    have x4 := D9.out.cell 4 (v := .slice none 0 0) (by simp)
    have x5 := D9.out.cell 5 (v := .slice none 0 0) (by simp)
    rw [O.out]
    exact bodyPost_ret (v := .tuple #[.agg #[.int .i64 0, .int .i64 0, .slice none 0 0, .slice none 0 0, .slice none 0 0, .slice none 0 0], .bool false]) (by simp [results, Try.results16, go_sem, x0, x1, x2, x3, x4, x5]) rfl ⟨_, rfl, as_zero _ _ _, B9.out⟩
  go_wp2_with fail
  refine (ValidStatute_any A rs.length c rs _ H.out).mono ?_
  rintro e w1 ⟨rfl, b1⟩
  replace C := Lib.hid (C.out.below b1)
  replace H := Lib.hid (H.out.below b1)
  replace BA := Lib.hid (bel_trans BA.out b1)
  clear b1
  cases hst : staB rs
  · have O := Lib.hid (show okN mb ru rs = false by unfold okN; rw [hin, hru, hst]; rfl)
    clear hin hru hst
    have y0 := C.out.cell 0 rfl
    have f0 := C.out.free 0 rfl
    have y1 := C.out.cell 1 rfl
    have f1 := C.out.free 1 rfl
    have y2 := C.out.cell 2 rfl
    have f2 := C.out.free 2 rfl
    have y3 := C.out.cell 3 rfl
    have f3 := C.out.free 3 rfl
    have y4 := C.out.cell 4 rfl
    have f4 := C.out.free 4 rfl
    have y5 := C.out.cell 5 rfl
    have f5 := C.out.free 5 rfl
    have D9 := Lib.hid ((((((C.out.set 0 (.int .i64 0) (by simp)).set 1 (.int .i64 0) (by simp)).set 2 (.slice none 0 0) (by simp)).set 3 (.slice none 0 0) (by simp)).set 4 (.slice none 0 0) (by simp)).set 5 (.slice none 0 0) (by simp))
    have B9 := Lib.hid ((((((BA.out.setCell (p := ⟨w.heap.size, 0, none⟩) (Nat.le_refl _) (.int .i64 0)).setCell (p := ⟨w.heap.size, 1, none⟩) (Nat.le_refl _) (.int .i64 0)).setCell (p := ⟨w.heap.size, 2, none⟩) (Nat.le_refl _) (.slice none 0 0)).setCell (p := ⟨w.heap.size, 3, none⟩) (Nat.le_refl _) (.slice none 0 0)).setCell (p := ⟨w.heap.size, 4, none⟩) (Nat.le_refl _) (.slice none 0 0)).setCell (p := ⟨w.heap.size, 5, none⟩) (Nat.le_refl _) (.slice none 0 0))
    go_wp2_with fail
    obtain ⟨w9, hw9⟩ : ∃ x, ((((((w1.setCell ⟨w.heap.size, 0, none⟩ (.int .i64 0)).setCell ⟨w.heap.size, 1, none⟩ (.int .i64 0)).setCell ⟨w.heap.size, 2, none⟩ (.slice none 0 0)).setCell ⟨w.heap.size, 3, none⟩ (.slice none 0 0)).setCell ⟨w.heap.size, 4, none⟩ (.slice none 0 0)).setCell ⟨w.heap.size, 5, none⟩ (.slice none 0 0)) = x := ⟨_, rfl⟩
    rw [hw9] at D9 B9 ⊢
    clear hw9
    have x0 := D9.out.cell 0 (v := .int .i64 0) (by simp)
    have x1 := D9.out.cell 1 (v := .int .i64 0) (by simp)
    have x2 := D9.out.cell 2 (v := .slice none 0 0) (by simp)
    have x3 := D9.out.cell 3 (v := .slice none 0 0) (by simp)
    have x4 := D9.out.cell 4 (v := .slice none 0 0) (by simp)
    have x5 := D9.out.cell 5 (v := .slice none 0 0) (by simp)
    rw [O.out]
    exact bodyPost_ret (v := .tuple #[.agg #[.int .i64 0, .int .i64 0, .slice none 0 0, .slice none 0 0, .slice none 0 0, .slice none 0 0], .bool false]) (by simp [results, Try.results16, go_sem, x0, x1, x2, x3, x4, x5]) rfl ⟨_, rfl, as_zero _ _ _, B9.out⟩
  have O := Lib.hid (show okN mb ru rs = true by unfold okN; rw [hin, hru, hst]; rfl)
  have l8 := staB_len hst
  clear hin hru hst
  obtain ⟨M, rfl⟩ : ∃ M : Nat, mb = (M : Int) := ⟨mb.toNat, by omega⟩
  obtain ⟨i0, hi, hzz⟩ := Option.map_eq_some_iff.1 info_ar
  simp only [Prod.mk.injEq] at hzz
  obtain ⟨hz0, hz1, hz2⟩ := hzz
  have hmk := fun W => run_make_row' (P := Try.prog) 36 22 (.slice none 0 0) 24 Try.underlying36 info_row rfl .i64 .i64 M (by omega) (by omega) W
  have hw1 := C.out.1
  have RUN := Lib.hid (fun (W : World) (ty : TypeId) (g base : Nat) (hO : OwnR 70 2 W base (some ⟨g, 0, none⟩) 0 0 []) (hR : Recs 2 W A rs.length c (rs.map Ar.vals)) (hb : base ≤ W.heap.size) =>
    run_app_recs W ty 37 70 base i0 _ 2 24 Try.underlying37 hi hz0 hz1 hz2 rfl (by omega) (some ⟨g, 0, none⟩) 0 0 [] hO A rs.length c (rs.map Ar.vals) hR ar_two ar_one (by unfold maxLen; omega) (by omega) hb)
  clear hi hz0 hz1 hz2
  go_wp2_with fail
  refine wp_region_noPanic ?_
  refine wp_region_R (inFirst (fun _ => True) 9) (by kernel_rfl) ?_
  have hS : True := trivial
  have bd : Below w1.heap.size w1 w1.drew := ⟨rfl, rfl, rfl, Nat.le_refl _, fun _ _ => rfl⟩
  have H1 := Lib.hid (H.out.below bd)
  have C1 := Lib.hid (C.out.below bd)
  have B1 := Lib.hid (bel_trans BA.out bd)
  have hw2 : w.heap.size < w1.drew.heap.size := hw1
  obtain ⟨v, hv⟩ : ∃ x, w1.drew = x := ⟨_, rfl⟩
  rw [hv] at H1 C1 B1 hw2
  rw [hv]
  clear hv bd C H BA
  refine anyR_take (i := 0) (.int .i64 ru) rfl (by kernel_rfl) (by kernel_rfl) (by kernel_rfl) (by kernel_rfl) (fun _ _ _ h => h) (by assumption) ⟨by rfl, ?_⟩ ?_
  · intro W hW
    go_simp
  try simp only [Act.put, List.setIfInBounds_toArray, List.set_cons_zero, List.set_cons_succ, List.getElem_toArray, List.getElem_cons_zero, List.getElem_cons_succ]
  refine anyR_take (i := 1) (.int .i64 M) rfl (by kernel_rfl) (by kernel_rfl) (by kernel_rfl) (by kernel_rfl) (fun _ _ _ h => h) (by assumption) ⟨by rfl, ?_⟩ ?_
  · intro W hW
    go_simp
  try simp only [Act.put, List.setIfInBounds_toArray, List.set_cons_zero, List.set_cons_succ, List.getElem_toArray, List.getElem_cons_zero, List.getElem_cons_succ]
  refine anyR_take (i := 4) (.slice A rs.length c) rfl (by kernel_rfl) (by kernel_rfl) (by kernel_rfl) (by kernel_rfl) (fun _ _ _ h => h) (by assumption) ⟨by rfl, ?_⟩ ?_
  · intro W hW
    go_simp
  try simp only [Act.put, List.setIfInBounds_toArray, List.set_cons_zero, List.set_cons_succ, List.getElem_toArray, List.getElem_cons_zero, List.getElem_cons_succ]
  refine anyR_two (i := 2) (j := 3) (by kernel_rfl) rfl rfl ?_ ?_
  · intro K hK
    go_simp
    have bm := bel_alloc v (.cells (madeCells #[.slice none 0 0] M) 22)
    have OM := made_reps v M (by omega)
    refine hK.out _ _ (fun _ => trivial) ?_
    clear hK K
    try simp only [Act.put, List.setIfInBounds_toArray, List.set_cons_zero, List.set_cons_succ, List.getElem_toArray, List.getElem_cons_zero, List.getElem_cons_succ]
    refine anyR_one (i := 3) (by kernel_rfl) rfl ?_
    intro K hK
    go_simp
    have bl := bel_alloc (v.alloc (.cells (madeCells #[.slice none 0 0] M) 22)) (.cells #[] 70)
    have OL := made_none (v.alloc (.cells (madeCells #[.slice none 0 0] M) 22))
    refine hK.out _ _ (fun _ => trivial) ?_
    clear hK K
    try simp only [Act.put, List.setIfInBounds_toArray, List.set_cons_zero, List.set_cons_succ, List.getElem_toArray, List.getElem_cons_zero, List.getElem_cons_succ]
    have e1 : (v.alloc (.cells (madeCells #[.slice none 0 0] M) 22)).heap.size = v.heap.size + 1 := by simp
    have e2 : ((v.alloc (.cells (madeCells #[.slice none 0 0] M) 22)).alloc (.cells #[] 70)).heap.size = v.heap.size + 1 + 1 := by simp
    rw [e1] at OL
    have bb := bel_trans bm bl
    have OM2 := OM.below bl
    refine anyR_one (i := 5) (by kernel_rfl) rfl ?_
    intro K hK
    refine step_app_recs _ (by rfl) _ _ _ _ (by rfl) (some ⟨v.heap.size + 1, 0, none⟩) 0 0 (by rfl) A rs.length c (by rfl) (RUN.out _ _ _ _ OL (H1.out.below bb).1 (by rw [e2]; omega)) ?_
    intro A' c' wf p1 p2
    have HA := Lib.hid (p1.mono (b2 := w.heap.size + 1) (by omega))
    have HT := Lib.hid ((OM2.kept p2 (.inr (by simp [Value.ownBlock]))).mono (b2 := w.heap.size + 1) hw2)
    have HC := Lib.hid ((C1.out.below bb).kept p2 (by simp [Value.ownBlock]; omega))
    have HBel := Lib.hid ((bel_trans B1.out bb).grown p2 (by rw [e2]; omega) (fun k hk => by simp [Value.ownBlock] at hk; omega))
    refine hK.out _ _ (fun _ => trivial) ?_
    clear OM OL OM2 bm bl bb e1 e2 p1 p2
    clear hK K
    try simp only [Act.put, List.setIfInBounds_toArray, List.set_cons_zero, List.set_cons_succ, List.getElem_toArray, List.getElem_cons_zero, List.getElem_cons_succ]
    obtain ⟨gT, hgT⟩ : ∃ x, v.heap.size = x := ⟨_, rfl⟩
    rw [hgT] at HT ⊢
    clear hgT
    rw [Nat.zero_add, List.nil_append] at HA
    have y0 := HC.out.cell 0 rfl
    have f0 := HC.out.free 0 rfl
    have y1 := HC.out.cell 1 rfl
    have f1 := HC.out.free 1 rfl
    have y2 := HC.out.cell 2 rfl
    have f2 := HC.out.free 2 rfl
    have y3 := HC.out.cell 3 rfl
    have f3 := HC.out.free 3 rfl
    have y4 := HC.out.cell 4 rfl
    have f4 := HC.out.free 4 rfl
    have y5 := HC.out.cell 5 rfl
    have f5 := HC.out.free 5 rfl
    have D9 := Lib.hid ((((((HC.out.set 0 (.int .i64 0) (by simp)).set 1 (.int .i64 ru) (by simp)).set 2 (.slice (some ⟨gT, 0, none⟩) M M) (by simp)).set 3 (.slice A' rs.length c') (by simp)).set 4 (.slice none 0 0) (by simp)).set 5 (.slice none 0 0) (by simp))
    have B9 := Lib.hid ((((((HBel.out.setCell (p := ⟨w.heap.size, 0, none⟩) (Nat.le_refl _) (.int .i64 0)).setCell (p := ⟨w.heap.size, 1, none⟩) (Nat.le_refl _) (.int .i64 ru)).setCell (p := ⟨w.heap.size, 2, none⟩) (Nat.le_refl _) (.slice (some ⟨gT, 0, none⟩) M M)).setCell (p := ⟨w.heap.size, 3, none⟩) (Nat.le_refl _) (.slice A' rs.length c')).setCell (p := ⟨w.heap.size, 4, none⟩) (Nat.le_refl _) (.slice none 0 0)).setCell (p := ⟨w.heap.size, 5, none⟩) (Nat.le_refl _) (.slice none 0 0))
    have T9 := Lib.hid ((((((HT.out.farS (g := w.heap.size) (Nat.lt_succ_self _) 0 (.int .i64 0)).farS (g := w.heap.size) (Nat.lt_succ_self _) 1 (.int .i64 ru)).farS (g := w.heap.size) (Nat.lt_succ_self _) 2 (.slice (some ⟨gT, 0, none⟩) M M)).farS (g := w.heap.size) (Nat.lt_succ_self _) 3 (.slice A' rs.length c')).farS (g := w.heap.size) (Nat.lt_succ_self _) 4 (.slice none 0 0)).farS (g := w.heap.size) (Nat.lt_succ_self _) 5 (.slice none 0 0))
    have A9 := Lib.hid ((((((HA.out.farS (g := w.heap.size) (Nat.lt_succ_self _) 0 (.int .i64 0)).farS (g := w.heap.size) (Nat.lt_succ_self _) 1 (.int .i64 ru)).farS (g := w.heap.size) (Nat.lt_succ_self _) 2 (.slice (some ⟨gT, 0, none⟩) M M)).farS (g := w.heap.size) (Nat.lt_succ_self _) 3 (.slice A' rs.length c')).farS (g := w.heap.size) (Nat.lt_succ_self _) 4 (.slice none 0 0)).farS (g := w.heap.size) (Nat.lt_succ_self _) 5 (.slice none 0 0))
    refine anyR_take (i := 6) (.agg #[.int .i64 0, .int .i64 ru, .slice (some ⟨gT, 0, none⟩) M M, .slice A' rs.length c', .slice none 0 0, .slice none 0 0]) rfl (by kernel_rfl) (by kernel_rfl) (by kernel_rfl) (by kernel_rfl) (fun _ _ _ h => h) (by assumption) ⟨by rfl, ?_⟩ ?_
    · intro W hW
      go_simp
    try simp only [Act.put, List.setIfInBounds_toArray, List.set_cons_zero, List.set_cons_succ, List.getElem_toArray, List.getElem_cons_zero, List.getElem_cons_succ]
    refine anyR_one (i := 7) (by kernel_rfl) rfl ?_
    intro K hK
    go_simp
    refine hK.out _ _ (fun _ => trivial) ?_
    clear hK K
    try simp only [Act.put, List.setIfInBounds_toArray, List.set_cons_zero, List.set_cons_succ, List.getElem_toArray, List.getElem_cons_zero, List.getElem_cons_succ]
    refine anyR_take (i := 8) (.bool true) rfl (by kernel_rfl) (by kernel_rfl) (by kernel_rfl) (by kernel_rfl) (fun _ _ _ h => h) (by assumption) ⟨by rfl, ?_⟩ ?_
    · intro W hW
      go_simp
    try simp only [Act.put, List.setIfInBounds_toArray, List.set_cons_zero, List.set_cons_succ, List.getElem_toArray, List.getElem_cons_zero, List.getElem_cons_succ]
    refine anyR_done (by kernel_rfl) ?_ _
    refine NoPanic.normal ?_
    go_wp2_with fail
    obtain ⟨w9, hw9⟩ : ∃ x, ((((((wf.setCell ⟨w.heap.size, 0, none⟩ (.int .i64 0)).setCell ⟨w.heap.size, 1, none⟩ (.int .i64 ru)).setCell ⟨w.heap.size, 2, none⟩ (.slice (some ⟨gT, 0, none⟩) M M)).setCell ⟨w.heap.size, 3, none⟩ (.slice A' rs.length c')).setCell ⟨w.heap.size, 4, none⟩ (.slice none 0 0)).setCell ⟨w.heap.size, 5, none⟩ (.slice none 0 0)) = x := ⟨_, rfl⟩
    rw [hw9] at D9 B9 T9 A9 ⊢
    clear hw9
    have x0 := D9.out.cell 0 (v := .int .i64 0) (by simp)
    have x1 := D9.out.cell 1 (v := .int .i64 ru) (by simp)
    have x2 := D9.out.cell 2 (v := .slice (some ⟨gT, 0, none⟩) M M) (by simp)
    have x3 := D9.out.cell 3 (v := .slice A' rs.length c') (by simp)
    have x4 := D9.out.cell 4 (v := .slice none 0 0) (by simp)
    have x5 := D9.out.cell 5 (v := .slice none 0 0) (by simp)
    rw [O.out]
    exact bodyPost_ret (v := .tuple #[.agg #[.int .i64 0, .int .i64 ru, .slice (some ⟨gT, 0, none⟩) M M, .slice A' rs.length c', .slice none 0 0, .slice none 0 0], .bool true]) (by simp [results, Try.results16, go_sem, x0, x1, x2, x3, x4, x5]) rfl ⟨_, rfl, ⟨_, _, A', c', _, rfl, (RR.mk' T9.out).wide (Nat.le_succ _) (Nat.le_refl _), reps_ok, (RR.mk' A9.out).wide (Nat.le_succ _) (Nat.le_refl _)⟩, B9.out⟩
  ·
    intro K hK
    go_simp
    have bl := bel_alloc v (.cells #[] 70)
    have OL := made_none v
    have e1 : (v.alloc (.cells #[] 70)).heap.size = v.heap.size + 1 := by simp
    refine hK.out _ _ (fun _ => trivial) ?_
    clear hK K
    try simp only [Act.put, List.setIfInBounds_toArray, List.set_cons_zero, List.set_cons_succ, List.getElem_toArray, List.getElem_cons_zero, List.getElem_cons_succ]
    refine anyR_two (i := 2) (j := 5) (by kernel_rfl) rfl rfl ?_ ?_
    · intro K hK
      go_simp
      have bm := bel_alloc (v.alloc (.cells #[] 70)) (.cells (madeCells #[.slice none 0 0] M) 22)
      have OM := made_reps (v.alloc (.cells #[] 70)) M (by omega)
      have e2 : ((v.alloc (.cells #[] 70)).alloc (.cells (madeCells #[.slice none 0 0] M) 22)).heap.size = v.heap.size + 1 + 1 := by simp
      rw [e1] at OM
      have bb := bel_trans bl bm
      have OL2 := OL.below bm
      refine hK.out _ _ (fun _ => trivial) ?_
      clear hK K
      try simp only [Act.put, List.setIfInBounds_toArray, List.set_cons_zero, List.set_cons_succ, List.getElem_toArray, List.getElem_cons_zero, List.getElem_cons_succ]
      refine anyR_one (i := 5) (by kernel_rfl) rfl ?_
      intro K hK
      refine step_app_recs _ (by rfl) _ _ _ _ (by rfl) (some ⟨v.heap.size, 0, none⟩) 0 0 (by rfl) A rs.length c (by rfl) (RUN.out _ _ _ _ OL2 (H1.out.below bb).1 (by rw [e2]; omega)) ?_
      intro A' c' wf p1 p2
      have HA := Lib.hid (p1.mono (b2 := w.heap.size + 1) (by omega))
      have HT := Lib.hid ((OM.kept p2 (.inr (by simp [Value.ownBlock]))).mono (b2 := w.heap.size + 1) (by omega))
      have HC := Lib.hid ((C1.out.below bb).kept p2 (by simp [Value.ownBlock]; omega))
      have HBel := Lib.hid ((bel_trans B1.out bb).grown p2 (by rw [e2]; omega) (fun k hk => by simp [Value.ownBlock] at hk; omega))
      refine hK.out _ _ (fun _ => trivial) ?_
      clear OM OL OL2 bm bl bb e1 e2 p1 p2
      clear hK K
      try simp only [Act.put, List.setIfInBounds_toArray, List.set_cons_zero, List.set_cons_succ, List.getElem_toArray, List.getElem_cons_zero, List.getElem_cons_succ]
      obtain ⟨gT, hgT⟩ : ∃ x, v.heap.size + 1 = x := ⟨_, rfl⟩
      rw [hgT] at HT ⊢
      clear hgT
      rw [Nat.zero_add, List.nil_append] at HA
      have y0 := HC.out.cell 0 rfl
      have f0 := HC.out.free 0 rfl
      have y1 := HC.out.cell 1 rfl
      have f1 := HC.out.free 1 rfl
      have y2 := HC.out.cell 2 rfl
      have f2 := HC.out.free 2 rfl
      have y3 := HC.out.cell 3 rfl
      have f3 := HC.out.free 3 rfl
      have y4 := HC.out.cell 4 rfl
      have f4 := HC.out.free 4 rfl
      have y5 := HC.out.cell 5 rfl
      have f5 := HC.out.free 5 rfl
      have D9 := Lib.hid ((((((HC.out.set 0 (.int .i64 0) (by simp)).set 1 (.int .i64 ru) (by simp)).set 2 (.slice (some ⟨gT, 0, none⟩) M M) (by simp)).set 3 (.slice A' rs.length c') (by simp)).set 4 (.slice none 0 0) (by simp)).set 5 (.slice none 0 0) (by simp))
      have B9 := Lib.hid ((((((HBel.out.setCell (p := ⟨w.heap.size, 0, none⟩) (Nat.le_refl _) (.int .i64 0)).setCell (p := ⟨w.heap.size, 1, none⟩) (Nat.le_refl _) (.int .i64 ru)).setCell (p := ⟨w.heap.size, 2, none⟩) (Nat.le_refl _) (.slice (some ⟨gT, 0, none⟩) M M)).setCell (p := ⟨w.heap.size, 3, none⟩) (Nat.le_refl _) (.slice A' rs.length c')).setCell (p := ⟨w.heap.size, 4, none⟩) (Nat.le_refl _) (.slice none 0 0)).setCell (p := ⟨w.heap.size, 5, none⟩) (Nat.le_refl _) (.slice none 0 0))
      have T9 := Lib.hid ((((((HT.out.farS (g := w.heap.size) (Nat.lt_succ_self _) 0 (.int .i64 0)).farS (g := w.heap.size) (Nat.lt_succ_self _) 1 (.int .i64 ru)).farS (g := w.heap.size) (Nat.lt_succ_self _) 2 (.slice (some ⟨gT, 0, none⟩) M M)).farS (g := w.heap.size) (Nat.lt_succ_self _) 3 (.slice A' rs.length c')).farS (g := w.heap.size) (Nat.lt_succ_self _) 4 (.slice none 0 0)).farS (g := w.heap.size) (Nat.lt_succ_self _) 5 (.slice none 0 0))
      have A9 := Lib.hid ((((((HA.out.farS (g := w.heap.size) (Nat.lt_succ_self _) 0 (.int .i64 0)).farS (g := w.heap.size) (Nat.lt_succ_self _) 1 (.int .i64 ru)).farS (g := w.heap.size) (Nat.lt_succ_self _) 2 (.slice (some ⟨gT, 0, none⟩) M M)).farS (g := w.heap.size) (Nat.lt_succ_self _) 3 (.slice A' rs.length c')).farS (g := w.heap.size) (Nat.lt_succ_self _) 4 (.slice none 0 0)).farS (g := w.heap.size) (Nat.lt_succ_self _) 5 (.slice none 0 0))
      refine anyR_take (i := 6) (.agg #[.int .i64 0, .int .i64 ru, .slice (some ⟨gT, 0, none⟩) M M, .slice A' rs.length c', .slice none 0 0, .slice none 0 0]) rfl (by kernel_rfl) (by kernel_rfl) (by kernel_rfl) (by kernel_rfl) (fun _ _ _ h => h) (by assumption) ⟨by rfl, ?_⟩ ?_
      · intro W hW
        go_simp
      try simp only [Act.put, List.setIfInBounds_toArray, List.set_cons_zero, List.set_cons_succ, List.getElem_toArray, List.getElem_cons_zero, List.getElem_cons_succ]
      refine anyR_one (i := 7) (by kernel_rfl) rfl ?_
      intro K hK
      go_simp
      refine hK.out _ _ (fun _ => trivial) ?_
      clear hK K
      try simp only [Act.put, List.setIfInBounds_toArray, List.set_cons_zero, List.set_cons_succ, List.getElem_toArray, List.getElem_cons_zero, List.getElem_cons_succ]
      refine anyR_take (i := 8) (.bool true) rfl (by kernel_rfl) (by kernel_rfl) (by kernel_rfl) (by kernel_rfl) (fun _ _ _ h => h) (by assumption) ⟨by rfl, ?_⟩ ?_
      · intro W hW
        go_simp
      try simp only [Act.put, List.setIfInBounds_toArray, List.set_cons_zero, List.set_cons_succ, List.getElem_toArray, List.getElem_cons_zero, List.getElem_cons_succ]
      refine anyR_done (by kernel_rfl) ?_ _
      refine NoPanic.normal ?_
      go_wp2_with fail
      obtain ⟨w9, hw9⟩ : ∃ x, ((((((wf.setCell ⟨w.heap.size, 0, none⟩ (.int .i64 0)).setCell ⟨w.heap.size, 1, none⟩ (.int .i64 ru)).setCell ⟨w.heap.size, 2, none⟩ (.slice (some ⟨gT, 0, none⟩) M M)).setCell ⟨w.heap.size, 3, none⟩ (.slice A' rs.length c')).setCell ⟨w.heap.size, 4, none⟩ (.slice none 0 0)).setCell ⟨w.heap.size, 5, none⟩ (.slice none 0 0)) = x := ⟨_, rfl⟩
      rw [hw9] at D9 B9 T9 A9 ⊢
      clear hw9
      have x0 := D9.out.cell 0 (v := .int .i64 0) (by simp)
      have x1 := D9.out.cell 1 (v := .int .i64 ru) (by simp)
      have x2 := D9.out.cell 2 (v := .slice (some ⟨gT, 0, none⟩) M M) (by simp)
      have x3 := D9.out.cell 3 (v := .slice A' rs.length c') (by simp)
      have x4 := D9.out.cell 4 (v := .slice none 0 0) (by simp)
      have x5 := D9.out.cell 5 (v := .slice none 0 0) (by simp)
      rw [O.out]
      exact bodyPost_ret (v := .tuple #[.agg #[.int .i64 0, .int .i64 ru, .slice (some ⟨gT, 0, none⟩) M M, .slice A' rs.length c', .slice none 0 0, .slice none 0 0], .bool true]) (by simp [results, Try.results16, go_sem, x0, x1, x2, x3, x4, x5]) rfl ⟨_, rfl, ⟨_, _, A', c', _, rfl, (RR.mk' T9.out).wide (Nat.le_succ _) (Nat.le_refl _), reps_ok, (RR.mk' A9.out).wide (Nat.le_succ _) (Nat.le_refl _)⟩, B9.out⟩
    · intro K hK
      refine step_app_recs _ (by rfl) _ _ _ _ (by rfl) (some ⟨v.heap.size, 0, none⟩) 0 0 (by rfl) A rs.length c (by rfl) (RUN.out _ _ _ _ OL (H1.out.below bl).1 (by rw [e1]; omega)) ?_
      intro A' c' wg p1 p2
      have HA0 := p1.mono (b2 := w.heap.size + 1) (by omega)
      have HC0 := (C1.out.below bl).kept p2 (by simp [Value.ownBlock]; omega)
      have HB0 := (bel_trans B1.out bl).grown p2 (by rw [e1]; omega) (fun k hk => by simp [Value.ownBlock] at hk; omega)
      have hg0 : w.heap.size + 1 ≤ wg.heap.size := HC0.1
      refine hK.out _ _ (fun _ => trivial) ?_
      clear OL bl e1 p1 p2
      clear hK K
      try simp only [Act.put, List.setIfInBounds_toArray, List.set_cons_zero, List.set_cons_succ, List.getElem_toArray, List.getElem_cons_zero, List.getElem_cons_succ]
      refine anyR_one (i := 2) (by kernel_rfl) rfl ?_
      intro K hK
      go_simp
      have bm := bel_alloc wg (.cells (madeCells #[.slice none 0 0] M) 22)
      have HT := Lib.hid ((made_reps wg M (by omega)).mono (b2 := w.heap.size + 1) hg0)
      have HA := Lib.hid (HA0.below bm)
      have HC := Lib.hid (HC0.below bm)
      have HBel := Lib.hid (bel_trans HB0 bm)
      refine hK.out _ _ (fun _ => trivial) ?_
      clear HA0 HC0 HB0 bm hg0
      clear hK K
      try simp only [Act.put, List.setIfInBounds_toArray, List.set_cons_zero, List.set_cons_succ, List.getElem_toArray, List.getElem_cons_zero, List.getElem_cons_succ]
      obtain ⟨gT, hgT⟩ : ∃ x, wg.heap.size = x := ⟨_, rfl⟩
      rw [hgT] at HT ⊢
      clear hgT
      obtain ⟨wf, hwf⟩ : ∃ x, wg.alloc (.cells (madeCells #[.slice none 0 0] M) 22) = x := ⟨_, rfl⟩
      rw [hwf] at HT HA HC HBel
      rw [hwf]
      clear hwf
      rw [Nat.zero_add, List.nil_append] at HA
      have y0 := HC.out.cell 0 rfl
      have f0 := HC.out.free 0 rfl
      have y1 := HC.out.cell 1 rfl
      have f1 := HC.out.free 1 rfl
      have y2 := HC.out.cell 2 rfl
      have f2 := HC.out.free 2 rfl
      have y3 := HC.out.cell 3 rfl
      have f3 := HC.out.free 3 rfl
      have y4 := HC.out.cell 4 rfl
      have f4 := HC.out.free 4 rfl
      have y5 := HC.out.cell 5 rfl
      have f5 := HC.out.free 5 rfl
      have D9 := Lib.hid ((((((HC.out.set 0 (.int .i64 0) (by simp)).set 1 (.int .i64 ru) (by simp)).set 2 (.slice (some ⟨gT, 0, none⟩) M M) (by simp)).set 3 (.slice A' rs.length c') (by simp)).set 4 (.slice none 0 0) (by simp)).set 5 (.slice none 0 0) (by simp))
      have B9 := Lib.hid ((((((HBel.out.setCell (p := ⟨w.heap.size, 0, none⟩) (Nat.le_refl _) (.int .i64 0)).setCell (p := ⟨w.heap.size, 1, none⟩) (Nat.le_refl _) (.int .i64 ru)).setCell (p := ⟨w.heap.size, 2, none⟩) (Nat.le_refl _) (.slice (some ⟨gT, 0, none⟩) M M)).setCell (p := ⟨w.heap.size, 3, none⟩) (Nat.le_refl _) (.slice A' rs.length c')).setCell (p := ⟨w.heap.size, 4, none⟩) (Nat.le_refl _) (.slice none 0 0)).setCell (p := ⟨w.heap.size, 5, none⟩) (Nat.le_refl _) (.slice none 0 0))
      have T9 := Lib.hid ((((((HT.out.farS (g := w.heap.size) (Nat.lt_succ_self _) 0 (.int .i64 0)).farS (g := w.heap.size) (Nat.lt_succ_self _) 1 (.int .i64 ru)).farS (g := w.heap.size) (Nat.lt_succ_self _) 2 (.slice (some ⟨gT, 0, none⟩) M M)).farS (g := w.heap.size) (Nat.lt_succ_self _) 3 (.slice A' rs.length c')).farS (g := w.heap.size) (Nat.lt_succ_self _) 4 (.slice none 0 0)).farS (g := w.heap.size) (Nat.lt_succ_self _) 5 (.slice none 0 0))
      have A9 := Lib.hid ((((((HA.out.farS (g := w.heap.size) (Nat.lt_succ_self _) 0 (.int .i64 0)).farS (g := w.heap.size) (Nat.lt_succ_self _) 1 (.int .i64 ru)).farS (g := w.heap.size) (Nat.lt_succ_self _) 2 (.slice (some ⟨gT, 0, none⟩) M M)).farS (g := w.heap.size) (Nat.lt_succ_self _) 3 (.slice A' rs.length c')).farS (g := w.heap.size) (Nat.lt_succ_self _) 4 (.slice none 0 0)).farS (g := w.heap.size) (Nat.lt_succ_self _) 5 (.slice none 0 0))
      refine anyR_take (i := 6) (.agg #[.int .i64 0, .int .i64 ru, .slice (some ⟨gT, 0, none⟩) M M, .slice A' rs.length c', .slice none 0 0, .slice none 0 0]) rfl (by kernel_rfl) (by kernel_rfl) (by kernel_rfl) (by kernel_rfl) (fun _ _ _ h => h) (by assumption) ⟨by rfl, ?_⟩ ?_
      · intro W hW
        go_simp
      try simp only [Act.put, List.setIfInBounds_toArray, List.set_cons_zero, List.set_cons_succ, List.getElem_toArray, List.getElem_cons_zero, List.getElem_cons_succ]
      refine anyR_one (i := 7) (by kernel_rfl) rfl ?_
      intro K hK
      go_simp
      refine hK.out _ _ (fun _ => trivial) ?_
      clear hK K
      try simp only [Act.put, List.setIfInBounds_toArray, List.set_cons_zero, List.set_cons_succ, List.getElem_toArray, List.getElem_cons_zero, List.getElem_cons_succ]
      refine anyR_take (i := 8) (.bool true) rfl (by kernel_rfl) (by kernel_rfl) (by kernel_rfl) (by kernel_rfl) (fun _ _ _ h => h) (by assumption) ⟨by rfl, ?_⟩ ?_
      · intro W hW
        go_simp
      try simp only [Act.put, List.setIfInBounds_toArray, List.set_cons_zero, List.set_cons_succ, List.getElem_toArray, List.getElem_cons_zero, List.getElem_cons_succ]
      refine anyR_done (by kernel_rfl) ?_ _
      refine NoPanic.normal ?_
      go_wp2_with fail
      obtain ⟨w9, hw9⟩ : ∃ x, ((((((wf.setCell ⟨w.heap.size, 0, none⟩ (.int .i64 0)).setCell ⟨w.heap.size, 1, none⟩ (.int .i64 ru)).setCell ⟨w.heap.size, 2, none⟩ (.slice (some ⟨gT, 0, none⟩) M M)).setCell ⟨w.heap.size, 3, none⟩ (.slice A' rs.length c')).setCell ⟨w.heap.size, 4, none⟩ (.slice none 0 0)).setCell ⟨w.heap.size, 5, none⟩ (.slice none 0 0)) = x := ⟨_, rfl⟩
      rw [hw9] at D9 B9 T9 A9 ⊢
      clear hw9
      have x0 := D9.out.cell 0 (v := .int .i64 0) (by simp)
      have x1 := D9.out.cell 1 (v := .int .i64 ru) (by simp)
      have x2 := D9.out.cell 2 (v := .slice (some ⟨gT, 0, none⟩) M M) (by simp)
      have x3 := D9.out.cell 3 (v := .slice A' rs.length c') (by simp)
      have x4 := D9.out.cell 4 (v := .slice none 0 0) (by simp)
      have x5 := D9.out.cell 5 (v := .slice none 0 0) (by simp)
      rw [O.out]
      exact bodyPost_ret (v := .tuple #[.agg #[.int .i64 0, .int .i64 ru, .slice (some ⟨gT, 0, none⟩) M M, .slice A' rs.length c', .slice none 0 0, .slice none 0 0], .bool true]) (by simp [results, Try.results16, go_sem, x0, x1, x2, x3, x4, x5]) rfl ⟨_, rfl, ⟨_, _, A', c', _, rfl, (RR.mk' T9.out).wide (Nat.le_succ _) (Nat.le_refl _), reps_ok, (RR.mk' A9.out).wide (Nat.le_succ _) (Nat.le_refl _)⟩, B9.out⟩
end Go.Proofs.Ytcoladhppbknnaa
