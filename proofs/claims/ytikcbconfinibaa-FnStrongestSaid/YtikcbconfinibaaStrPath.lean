/- StrongestPath, walked (printed by gensp2.py). -/
import Derived.Test.YtikcbconfinibaaSpCl
import Derived.Test.YtikcbconfinibaaRkWin
import Derived.Deep.Cut
import Derived.WalkSpells
namespace Go.Proofs.Ytikcbconfinibaa
set_option linter.unusedVariables false
set_option linter.unusedSimpArgs false
set_option maxRecDepth 100000
open Go.RowKit Go.Deep
section
variable {P : Program} {ops : Array Oper} {Q : Exit → Act → World → Prop} {md : Region.Mode} {R R' : Nat → World → Prop}
theorem anyR_mono (h : ∀ i w, R' i w → R i w) : ∀ (k : Nat) (l : Array Bool) (a : Act) (w : World), anyR P md ops Q R' k l a w → anyR P md ops Q R k l a w
  | 0, _, _, _, x => x
  | k + 1, l, a, w, x => ⟨x.1, fun i hi => wpOp_mono (fun a' w' y => ⟨h i w' y.1, anyR_mono h k _ a' w' y.2⟩) (x.2 i hi)⟩
theorem anyR_three {i j m : Nat} {o q s : Oper} {k : Nat} {l : Array Bool} {a : Act} {w : World} (hr : Region.ready md ops l = [i, j, m]) (ho : ops[i]? = some o) (hq : ops[j]? = some q) (hs : ops[m]? = some s)
    (h : ∀ K : Act → World → Prop, Shut (∀ a w, R i w → anyR P md ops Q R k (l.setIfInBounds i true) a w → K a w) → if Region.wanted o (yielded ops a.tmps) = true then Oper.wp P o a w K Q else K (a.put o.dst undef) w)
    (h' : ∀ K : Act → World → Prop, Shut (∀ a w, R j w → anyR P md ops Q R k (l.setIfInBounds j true) a w → K a w) → if Region.wanted q (yielded ops a.tmps) = true then Oper.wp P q a w K Q else K (a.put q.dst undef) w)
    (h'' : ∀ K : Act → World → Prop, Shut (∀ a w, R m w → anyR P md ops Q R k (l.setIfInBounds m true) a w → K a w) → if Region.wanted s (yielded ops a.tmps) = true then Oper.wp P s a w K Q else K (a.put s.dst undef) w) :
    anyR P md ops Q R (k + 1) l a w :=
  ⟨fun h0 => absurd h0 (by rw [hr]; simp), fun x hx => by
    rw [hr] at hx
    rcases List.mem_cons.1 hx with rfl | hx
    · exact wpOp_step ho fun K hK => h K fun a w h1 h2 => hK a w ⟨h1, h2⟩
    · rcases List.mem_cons.1 hx with rfl | hx
      · exact wpOp_step hq fun K hK => h' K fun a w h1 h2 => hK a w ⟨h1, h2⟩
      · obtain rfl := List.mem_singleton.1 hx
        exact wpOp_step hs fun K hK => h'' K fun a w h1 h2 => hK a w ⟨h1, h2⟩⟩
end
/-- A variable of one cell that the call itself made. -/
def B1 (t : TypeId) (w : World) (g : Nat) (u : Value) : Prop := w.ownsRow g t 1 (.slice (some ⟨g, 0, none⟩) 1 1) 1 [u]
section
variable {t : TypeId} {w w' : World} {g : Nat} {u : Value}
theorem B1.new (t : TypeId) (w : World) (u : Value) : B1 t (w.alloc (.cells #[u] t)) w.heap.size u := by
  have := World.ownsRow_lit (base := w.heap.size) (e := t) (size := 1) w #[u] 1 (Nat.le_refl _) (by unfold maxLen; omega) rfl
  simpa [B1] using this
theorem B1.below (h : B1 t w g u) (b : Below w.heap.size w w') : B1 t w' g u := World.ownsRow.kept (row := none) h ⟨b.os, b.tape, b.output, b.size, fun k hk _ => b.block k hk⟩ (.inr (by simp [Value.ownBlock]))
theorem B1.cell (h : B1 t w g u) : w.cell? ⟨g, 0, none⟩ = some u := by
  have c0 := World.ownsRow.cellAt h 0 (by omega)
  exact c0
theorem B1.free (h : B1 t w g u) : w.frozen? ⟨g, 0, none⟩ = false := World.ownsRow.frozenAt h 0
theorem B1.lt (h : B1 t w g u) : g < w.heap.size := (World.ownsRow.lt h g rfl).2
theorem B1.set (h : B1 t w g u) (v : Value) : B1 t (w.setCell ⟨g, 0, none⟩ v) g v ∧ w.grownBy (w.setCell ⟨g, 0, none⟩ v) (some g) := World.ownsRow.stored h 0 v
theorem B1.far (h : B1 t w g u) {g2 : Nat} (hg : w.grownBy w' (some g2)) (hne : g ≠ g2) : B1 t w' g u := World.ownsRow.kept h hg (.inr (by simp [Value.ownBlock]; exact hne))
end
theorem SP.mono {n f : Nat} {E E' : Nat → Nat → Bool} (hE : ∀ a b, E a b = true → E' a b = true) {p : List Nat} {a : Nat} (h : SP n E f p a) : SP n E' f p a := by
  induction h with
  | base => exact .base
  | snoc h h1 h2 h3 ih => exact .snoc ih h1 h2 (hE _ _ h3)
theorem strg_hi (n : Nat) (P : Nat → Nat → Int) (a b : Nat) (h : P b a < P a b) : P a b ≤ strg n P a b := by
  have := fw_mono (M := ini P) a b n
  have e : ini P a b = P a b := if_pos h
  rw [e] at this
  exact this
theorem strg_pos {n : Nat} {P : Nat → Nat → Int} (h0 : ∀ a b, 0 ≤ P a b) {f t : Nat} (hf : f < n) (hne : f ≠ t) {v : Int} {p : List Nat} (h : SP n (edgV P v) f p t) : 0 < strg n P f t := by
  have h1 : SP n (edgV P 1) f p t := h.mono fun a b e => by
    have := edgV_iff.1 e
    have := h0 b a
    exact edgV_iff.2 ⟨by omega, by omega⟩
  have := SP.strong (fw_closed n (ini P)) (fun a b _ _ _ e => strg_hi n P a b e) hf h1 hne
  show 0 < fw (ini P) n f t
  omega
/-- What StrongestPath tells. -/
def PathR (n : Nat) (P : Nat → Nat → Int) (f t : Nat) (w : World) (e : Ending) (w' : World) : Prop :=
  ((¬ (f ≠ t ∧ 0 < strg n P f t) ∧ e = .returned (.tuple #[.slice none 0 0, .bool false])) ∨ (f ≠ t ∧ 0 < strg n P f t ∧ ∃ p A c, SP n (edgV P (strg n P f t)) f p t ∧ e = .returned (.tuple #[.slice (some A) p.length c, .bool true]) ∧ Ints .i64 w' (some A) p.length c (zr p))) ∧ Below w.heap.size w w'
/-- Both captured variables and the pairs. -/
structure CapP (w : World) (base gP cP n : Nat) (vP : List Value) (P : Nat → Nat → Int) (v : Int) (g1 g2 : Nat) : Prop where
  m : OwnM w base (some ⟨gP, 0, none⟩) n cP vP (matF n P)
  c1 : w.cell? ⟨g1, 0, none⟩ = some (.slice (some ⟨gP, 0, none⟩) n cP)
  c2 : w.cell? ⟨g2, 0, none⟩ = some (.int .i64 v)
  l1 : g1 < w.heap.size
  l2 : g2 < w.heap.size
theorem CapP.below {w w' : World} {base gP cP n : Nat} {vP : List Value} {P : Nat → Nat → Int} {v : Int} {g1 g2 : Nat} (h : CapP w base gP cP n vP P v g1 g2) (b : Below w.heap.size w w') : CapP w' base gP cP n vP P v g1 g2 :=
  ⟨h.m.below b, (b.cell (p := ⟨g1, 0, none⟩) h.l1).trans h.c1, (b.cell (p := ⟨g2, 0, none⟩) h.l2).trans h.c2, Nat.lt_of_lt_of_le h.l1 b.size, Nat.lt_of_lt_of_le h.l2 b.size⟩
/-- What is known while the region goes on: which of its parts are done. -/
structure Q3 (w2 W : World) (n : Nat) (P : Nat → Nat → Int) (d8 d9 dm : Bool) (g8 g9 base gP cP : Nat) (vP : List Value) : Prop where
  bel : Below w2.heap.size w2 W
  b8 : d8 = true → B1 2 W g8 (.int .i64 0)
  b9 : d9 = true → B1 24 W g9 (.slice none 0 0)
  m : dm = true → OwnM W base (some ⟨gP, 0, none⟩) n cP vP (matF n P)
  ne : d8 = true → dm = true → ∀ v ∈ vP, ∀ g, v.ownBlock = some g → g ≠ g8
section
variable {w2 W W' : World} {n : Nat} {P : Nat → Nat → Int} {d8 d9 dm : Bool} {g8 g9 base gP cP : Nat} {vP : List Value}
theorem Q3.below (h : Q3 w2 W n P d8 d9 dm g8 g9 base gP cP vP) (b : Below W.heap.size W W') : Q3 w2 W' n P d8 d9 dm g8 g9 base gP cP vP :=
  ⟨bel_trans h.bel b, fun e => (h.b8 e).below b, fun e => (h.b9 e).below b, fun e => (h.m e).below b, h.ne⟩
theorem Q3.alloc8 (h : Q3 w2 W n P false d9 dm g8 g9 base gP cP vP) : Q3 w2 (W.alloc (.cells #[.int .i64 0] 2)) n P true d9 dm W.heap.size g9 base gP cP vP :=
  have b := bel_alloc W (.cells #[.int .i64 0] 2)
  ⟨bel_trans h.bel b, fun _ => B1.new _ _ _, fun e => (h.b9 e).below b, fun e => (h.m e).below b, fun _ e v hv g hg q => by have := ((h.m e).blocks v hv g hg).2; omega⟩
theorem Q3.alloc9 (h : Q3 w2 W n P d8 false dm g8 g9 base gP cP vP) : Q3 w2 (W.alloc (.cells #[.slice none 0 0] 24)) n P d8 true dm g8 W.heap.size base gP cP vP :=
  have b := bel_alloc W (.cells #[.slice none 0 0] 24)
  ⟨bel_trans h.bel b, fun e => (h.b8 e).below b, fun _ => B1.new _ _ _, fun e => (h.m e).below b, h.ne⟩
theorem Q3.mat (h : Q3 w2 W n P d8 d9 false g8 g9 base gP cP vP) {g c : Nat} {vs : List Value} (o : OwnM W' W.heap.size (some ⟨g, 0, none⟩) n c vs (matF n P)) (b : Below W.heap.size W W') : Q3 w2 W' n P d8 d9 true g8 g9 W.heap.size g c vs :=
  ⟨bel_trans h.bel b, fun e => (h.b8 e).below b, fun e => (h.b9 e).below b, fun _ => o, fun e _ v hv g hg q => by have := (o.blocks v hv g hg).1; have := (h.b8 e).lt; omega⟩
theorem Q3.done (h : Q3 w2 W n P true true true g8 g9 base gP cP vP) (k8 : w2.heap.size ≤ g8) (k9 : w2.heap.size ≤ g9) (v : Int) : Below w2.heap.size w2 ((W.setCell ⟨g8, 0, none⟩ (.int .i64 v)).setCell ⟨g9, 0, none⟩ (.slice (some ⟨gP, 0, none⟩) n cP)) :=
  (h.bel.setCell (p := ⟨g8, 0, none⟩) k8 _).setCell (p := ⟨g9, 0, none⟩) k9 _
theorem Q3.ends (h : Q3 w2 W n P true true true g8 g9 base gP cP vP) (v : Int) : ∃ W1, W1 = W.setCell ⟨g8, 0, none⟩ (.int .i64 v) ∧ W.cell? ⟨g8, 0, none⟩ = some (.int .i64 0) ∧ W.frozen? ⟨g8, 0, none⟩ = false ∧ W1.cell? ⟨g9, 0, none⟩ = some (.slice none 0 0) ∧ W1.frozen? ⟨g9, 0, none⟩ = false ∧
    CapP (W1.setCell ⟨g9, 0, none⟩ (.slice (some ⟨gP, 0, none⟩) n cP)) base gP cP n vP P v g9 g8 := by
  have a := h.b9 rfl
  have b := h.b8 rfl
  have m := h.m rfl
  have hne : g9 ≠ g8 := fun e => by
    subst e
    rcases own_ne a b (by decide) with x | x
    · simp [Value.ownBlock] at x
    · exact x rfl
  obtain ⟨s1, s2⟩ := b.set (.int .i64 v)
  have a2 := a.far s2 hne
  obtain ⟨s3, s4⟩ := a2.set (.slice (some ⟨gP, 0, none⟩) n cP)
  have s5 := s1.far s4 (Ne.symm hne)
  refine ⟨_, rfl, b.cell, b.free, a2.cell, a2.free, ⟨?_, s3.cell, s5.cell, s3.lt, s5.lt⟩⟩
  have m1 : OwnM (W.setCell ⟨g8, 0, none⟩ (.int .i64 v)) base (some ⟨gP, 0, none⟩) n cP vP (matF n P) := m.kept s2 (own_ne m.outer b (by decide)) (fun u hu => by
    cases hb : u.ownBlock with
    | none => exact .inl rfl
    | some x => exact .inr (fun e => by injection e with e; exact h.ne rfl rfl u hu x hb e))
  exact m1.kept s4 (own_ne m1.outer a2 (by decide)) (fun u hu => by
    obtain ⟨q, hq, rfl⟩ := List.getElem_of_mem hu
    obtain ⟨A', c', hv', ho⟩ := m1.row q _ (List.getElem?_eq_getElem (by have := m1.len; have := m1.vlen; omega))
    rw [List.getElem?_eq_getElem hq] at hv'
    injection hv' with hv'
    rw [hv']
    exact own_ne ho.1 a2 (by decide))
end
set_option maxHeartbeats 16000000 in
theorem strongestPath_ok (n : Nat) (rs : List (List Nat)) (ws : List Int) (ok : PrOk n rs ws) (f t : Nat) (hf : f < n) (ht : t < n) (RA : Option Addr) (rc : Nat) (WA : Option Addr) (wc : Nat) (w : World) (h : PrV w RA rc WA wc rs ws) :
    Calls Try.prog 24 #[.agg #[.slice RA rs.length rc, .slice WA rs.length wc], .int .i64 f, .int .i64 t] w (PathR n (prs (rs.zip ws)) f t w) := by
  have n1 := ok.n1
  have n6 := ok.n6
  have ba := bel_alloc w (.cells #[.slice RA rs.length rc, .slice WA rs.length wc] 27)
  have CB := Lib.hid (Cs.new w [.slice RA rs.length rc, .slice WA rs.length wc] 27)
  have BB := Lib.hid ba
  have H := Lib.hid (h.below ba)
  have OK := Lib.hid ok
  have PB := Lib.hid (prs_all ok)
  have y0 := CB.out.cell 0 rfl
  have y1 := CB.out.cell 1 rfl
  have qN : ∀ (w : World) (a : Option Addr) (n c n' c' : Nat), (binOp .neq 25 (.slice a n c) (.slice none n' c')).run Try.prog w = .ok (.bool (!a.isNone)) w := fun w a n c n' c' => run_neq_slice_nil_any w _ _ a n c n' c' Try.underlying25
  clear ba h ok
  go_enter Try.func24, Try.ntmps24
  go_wp2_with fail
  refine (isOption_ok n rs ws OK.out f hf RA rc WA wc _ H.out).mono ?_
  rintro e w1 ⟨rfl, b1⟩
  have CB1 := Lib.hid (CB.out.below b1)
  have BB1 := Lib.hid (bel_trans BB.out b1)
  have H1 := Lib.hid (H.out.below b1)
  clear b1 y0 y1 CB BB H
  have y0 := CB1.out.cell 0 rfl
  have y1 := CB1.out.cell 1 rfl
  go_wp2_with fail
  refine (isOption_ok n rs ws OK.out t ht RA rc WA wc _ H1.out).mono ?_
  rintro e w2 ⟨rfl, b2⟩
  have CB2 := Lib.hid (CB1.out.below b2)
  have BB2 := Lib.hid (bel_trans BB1.out b2)
  have H2 := Lib.hid (H1.out.below b2)
  clear b2 y0 y1 CB1 BB1 H1
  have y0 := CB2.out.cell 0 rfl
  have y1 := CB2.out.cell 1 rfl
  obtain ⟨P, hP⟩ : ∃ P, prs (rs.zip ws) = P := ⟨_, rfl⟩
  have HPP := Lib.hid hP
  rw [hP] at PB
  rw [hP]
  clear hP
  by_cases hft : f = t
  · subst hft
    have e1 : ((f : Int) == (f : Int)) = true := by simp
    go_wp2_with fail
    exact bodyPost_ret (v := .tuple #[.slice none 0 0, .bool false]) (by simp [results, Try.results24, go_sem]) rfl ⟨.inl ⟨fun x => x.1 rfl, rfl⟩, BB2.out⟩
  · have HNE := Lib.hid hft
    have e1 : ((f : Int) == (t : Int)) = false := by show decide _ = false; exact decide_eq_false (by omega)
    have f0 : (0 : Int) ≤ (f : Int) := by omega
    have f1 : (f : Int) < (n : Int) := by omega
    have t0 : (0 : Int) ≤ (t : Int) := by omega
    have t1 : (t : Int) < (n : Int) := by omega
    clear hft
    go_upto_region 3 with (fail)
    go_cut [8, 9] from 4 (fun s q wc => ∃ (g1 g2 base gP cP : Nat) (vP : List Value), s = .pointer (some ⟨g2, 0, none⟩) ∧ q = .pointer (some ⟨g1, 0, none⟩) ∧ CapP wc base gP cP n vP P (strg n P f t) g1 g2 ∧ Below w2.heap.size w2 wc)
    case first =>
      refine wp_region_noPanic ?_
      refine wp_region_R (inFirst (fun W => Below w2.heap.size w2 W ∧ W.cell? ⟨w.heap.size, 0, none⟩ = some (.slice RA rs.length rc) ∧ W.cell? ⟨w.heap.size, 1, none⟩ = some (.slice WA rs.length wc)) 12) (by kernel_rfl) ?_
      have SS := Lib.hid (fun (W : World) (hW : Below w2.heap.size w2 W) => (show Below w2.heap.size w2 W ∧ W.cell? ⟨w.heap.size, 0, none⟩ = some (.slice RA rs.length rc) ∧ W.cell? ⟨w.heap.size, 1, none⟩ = some (.slice WA rs.length wc) from ⟨hW, (CB2.out.below hW).cell 0 rfl, (CB2.out.below hW).cell 1 rfl⟩))
      have b3 : Below w2.heap.size w2 w2.drew := ⟨rfl, rfl, rfl, Nat.le_refl _, fun _ _ => rfl⟩
      have hQ := Lib.hid (show Q3 w2 w2.drew n P false false false 0 0 0 0 0 [] from ⟨b3, fun e => by simp at e, fun e => by simp at e, fun e => by simp at e, fun e => by simp at e⟩)
      obtain ⟨wD, hwD⟩ : ∃ z, w2.drew = z := ⟨_, rfl⟩
      rw [hwD] at hQ
      rw [hwD]
      have hS := SS.out wD hQ.out.bel
      clear hwD b3
      have P0 := Lib.hid (fun W hW => pairs_ok n rs ws OK.out RA rc WA wc W hW)
      have T0 := Lib.hid (fun W hW => strengths_ok n rs ws OK.out RA rc WA wc W hW)
      rw [HPP.out] at P0 T0
      refine anyR_take (i := 0) (.agg #[.slice RA rs.length rc, .slice WA rs.length wc]) rfl (by kernel_rfl) (by kernel_rfl) (by kernel_rfl) (by kernel_rfl) (fun _ _ _ h => h) (by assumption) ⟨by rfl, ?_⟩ ?_
      · intro W hW
        go_simp
      try simp only [Act.put, List.setIfInBounds_toArray, List.set_cons_zero, List.set_cons_succ, List.getElem_toArray, List.getElem_cons_zero, List.getElem_cons_succ]
      refine anyR_take (i := 2) (.int .i64 f) rfl (by kernel_rfl) (by kernel_rfl) (by kernel_rfl) (by kernel_rfl) (fun _ _ _ h => h) (by assumption) ⟨by rfl, ?_⟩ ?_
      · intro W hW
        go_simp
      try simp only [Act.put, List.setIfInBounds_toArray, List.set_cons_zero, List.set_cons_succ, List.getElem_toArray, List.getElem_cons_zero, List.getElem_cons_succ]
      refine anyR_take (i := 5) (.int .i64 t) rfl (by kernel_rfl) (by kernel_rfl) (by kernel_rfl) (by kernel_rfl) (fun _ _ _ h => h) (by assumption) ⟨by rfl, ?_⟩ ?_
      · intro W hW
        go_simp
      try simp only [Act.put, List.setIfInBounds_toArray, List.set_cons_zero, List.set_cons_succ, List.getElem_toArray, List.getElem_cons_zero, List.getElem_cons_succ]
      refine anyR_takeD (i := 8) [9] (.agg #[.slice RA rs.length rc, .slice WA rs.length wc]) rfl (by kernel_rfl) (by kernel_rfl) (by kernel_rfl) (by kernel_rfl) (by kernel_rfl) (fun _ _ _ h => h) (by assumption) ⟨by rfl, ?_⟩ ?_
      · intro W hW
        go_simp
      try simp only [Act.put, List.setIfInBounds_toArray, List.set_cons_zero, List.set_cons_succ, List.getElem_toArray, List.getElem_cons_zero, List.getElem_cons_succ]
      refine anyR_three (i := 1) (j := 10) (m := 11) (by kernel_rfl) rfl rfl rfl ?_ ?_ ?_
      · intro K hK
        go_simp
        go_at_call 34
        refine (T0.out _ (H2.out.below hQ.out.bel)).mono ?_
        rintro e wX ⟨gS, cS, vS, rfl, oS, bX⟩
        replace hQ := Lib.hid (hQ.out.below bX)
        have hT := SS.out wX hQ.out.bel
        refine hK.out _ _ (fun _ => hT) ?_
        clear hS
        have hS := hT
        clear hT
        clear hK K
        try simp only [Act.put, List.setIfInBounds_toArray, List.set_cons_zero, List.set_cons_succ, List.getElem_toArray, List.getElem_cons_zero, List.getElem_cons_succ]
        obtain ⟨a1, r1, R1⟩ := oS.rowAt hf
        have BX := Lib.hid (Below.refl wX.heap.size wX)
        have u1 : wX.cell? ⟨gS, f, none⟩ = some (.slice (some ⟨a1, 0, none⟩) n r1) := R1.cell
        have x1 : wX.cell? ⟨a1, t, none⟩ = some (.int .i64 (strg n P f t)) := R1.at' t ht
        have l1 := R1.glt
        have l2 := R1.lt
        have SX := Lib.hid (fun (W : World) (hB : Below w2.heap.size w2 W) (hW : Below wX.heap.size wX W) => (show (Below w2.heap.size w2 W ∧ W.cell? ⟨w.heap.size, 0, none⟩ = some (.slice RA rs.length rc) ∧ W.cell? ⟨w.heap.size, 1, none⟩ = some (.slice WA rs.length wc)) ∧ W.cell? ⟨gS, f, none⟩ = some (.slice (some ⟨a1, 0, none⟩) n r1) ∧ W.cell? ⟨a1, t, none⟩ = some (.int .i64 (strg n P f t)) from
          ⟨SS.out W hB, (hW.cell (p := ⟨gS, f, none⟩) l1).trans u1, (hW.cell (p := ⟨a1, t, none⟩) l2).trans x1⟩))
        refine anyR_mono (R' := inFirst (fun W => (Below w2.heap.size w2 W ∧ W.cell? ⟨w.heap.size, 0, none⟩ = some (.slice RA rs.length rc) ∧ W.cell? ⟨w.heap.size, 1, none⟩ = some (.slice WA rs.length wc)) ∧ W.cell? ⟨gS, f, none⟩ = some (.slice (some ⟨a1, 0, none⟩) n r1) ∧ W.cell? ⟨a1, t, none⟩ = some (.int .i64 (strg n P f t))) 12) (fun i W h hi => (h hi).1) _ _ _ _ ?_
        replace hS := SX.out wX hQ.out.bel BX.out
        clear bX R1 oS u1 x1 l1 l2
        refine anyR_take (i := 3) (.pointer (some ⟨gS, f, none⟩)) rfl (by kernel_rfl) (by kernel_rfl) (by kernel_rfl) (by kernel_rfl) (fun _ _ _ h => h) (by assumption) ⟨by rfl, ?_⟩ ?_
        · intro W hW
          go_simp
        try simp only [Act.put, List.setIfInBounds_toArray, List.set_cons_zero, List.set_cons_succ, List.getElem_toArray, List.getElem_cons_zero, List.getElem_cons_succ]
        refine anyR_take (i := 4) (.slice (some ⟨a1, 0, none⟩) n r1) rfl (by kernel_rfl) (by kernel_rfl) (by kernel_rfl) (by kernel_rfl) (fun _ _ _ h => h) (by assumption) ⟨by rfl, ?_⟩ ?_
        · intro W hW
          go_simp
        try simp only [Act.put, List.setIfInBounds_toArray, List.set_cons_zero, List.set_cons_succ, List.getElem_toArray, List.getElem_cons_zero, List.getElem_cons_succ]
        refine anyR_take (i := 6) (.pointer (some ⟨a1, t, none⟩)) rfl (by kernel_rfl) (by kernel_rfl) (by kernel_rfl) (by kernel_rfl) (fun _ _ _ h => h) (by assumption) ⟨by rfl, ?_⟩ ?_
        · intro W hW
          go_simp
        try simp only [Act.put, List.setIfInBounds_toArray, List.set_cons_zero, List.set_cons_succ, List.getElem_toArray, List.getElem_cons_zero, List.getElem_cons_succ]
        refine anyR_take (i := 7) (.int .i64 (strg n P f t)) rfl (by kernel_rfl) (by kernel_rfl) (by kernel_rfl) (by kernel_rfl) (fun _ _ _ h => h) (by assumption) ⟨by rfl, ?_⟩ ?_
        · intro W hW
          go_simp
        try simp only [Act.put, List.setIfInBounds_toArray, List.set_cons_zero, List.set_cons_succ, List.getElem_toArray, List.getElem_cons_zero, List.getElem_cons_succ]
        refine anyR_three (i := 9) (j := 10) (m := 11) (by kernel_rfl) rfl rfl rfl ?_ ?_ ?_
        · intro K hK
          go_simp
          go_at_call 33
          refine (P0.out _ (H2.out.below hQ.out.bel)).mono ?_
          rintro e wY ⟨gP, cP, vP, rfl, oP, bX⟩
          replace hQ := Lib.hid (hQ.out.mat oP bX)
          replace BX := Lib.hid (bel_trans BX.out bX)
          have hT := SX.out wY hQ.out.bel BX.out
          refine hK.out _ _ (fun _ => hT) ?_
          clear hS bX oP
          have hS := hT
          clear hT
          clear hK K
          try simp only [Act.put, List.setIfInBounds_toArray, List.set_cons_zero, List.set_cons_succ, List.getElem_toArray, List.getElem_cons_zero, List.getElem_cons_succ]
          refine anyR_two (i := 10) (j := 11) (by kernel_rfl) rfl rfl ?_ ?_
          · intro K hK
            have SZ := Lib.hid hQ.out.bel.size
            go_simp
            have bX := bel_alloc wY (.cells #[.int .i64 0] 2)
            replace hQ := Lib.hid hQ.out.alloc8
            replace BX := Lib.hid (bel_trans BX.out bX)
            have G8 := Lib.hid (show w2.heap.size ≤ wY.heap.size from SZ.out)
            obtain ⟨wA1, hwN⟩ : ∃ z, wY.alloc (.cells #[.int .i64 0] 2) = z := ⟨_, rfl⟩
            rw [hwN] at hQ BX
            rw [hwN]
            have hT := SX.out wA1 hQ.out.bel BX.out
            refine hK.out _ _ (fun _ => hT) ?_
            clear hS bX hwN
            have hS := hT
            clear hT
            clear hK K
            try simp only [Act.put, List.setIfInBounds_toArray, List.set_cons_zero, List.set_cons_succ, List.getElem_toArray, List.getElem_cons_zero, List.getElem_cons_succ]
            refine anyR_one (i := 11) (by kernel_rfl) rfl ?_
            intro K hK
            have SZ := Lib.hid hQ.out.bel.size
            go_simp
            have bX := bel_alloc wA1 (.cells #[.slice none 0 0] 24)
            replace hQ := Lib.hid hQ.out.alloc9
            replace BX := Lib.hid (bel_trans BX.out bX)
            have G9 := Lib.hid (show w2.heap.size ≤ wA1.heap.size from SZ.out)
            obtain ⟨wA2, hwN⟩ : ∃ z, wA1.alloc (.cells #[.slice none 0 0] 24) = z := ⟨_, rfl⟩
            rw [hwN] at hQ BX
            rw [hwN]
            have hT := SX.out wA2 hQ.out.bel BX.out
            refine hK.out _ _ (fun _ => hT) ?_
            clear hS bX hwN
            have hS := hT
            clear hT
            clear hK K
            try simp only [Act.put, List.setIfInBounds_toArray, List.set_cons_zero, List.set_cons_succ, List.getElem_toArray, List.getElem_cons_zero, List.getElem_cons_succ]
            obtain ⟨W1, hW1, k0, k1, k2, k3, k4⟩ := hQ.out.ends (strg n P f t)
            have KB := Lib.hid (hQ.out.done (by have := G8.out; omega) (by have := G9.out; omega) (strg n P f t))
            rw [← hW1] at KB
            have HW1 := Lib.hid hW1.symm
            clear hW1
            refine anyR_one (i := 12) (by kernel_rfl) rfl ?_
            intro K hK
            go_simp
            rw [HW1.out]
            refine hK.out _ _ (fun h => absurd h (by decide)) ?_
            clear hK K
            try simp only [Act.put, List.setIfInBounds_toArray, List.set_cons_zero, List.set_cons_succ, List.getElem_toArray, List.getElem_cons_zero, List.getElem_cons_succ]
            refine anyR_one (i := 13) (by kernel_rfl) rfl ?_
            intro K hK
            go_simp
            refine hK.out _ _ (fun h => absurd h (by decide)) ?_
            clear hK K
            try simp only [Act.put, List.setIfInBounds_toArray, List.set_cons_zero, List.set_cons_succ, List.getElem_toArray, List.getElem_cons_zero, List.getElem_cons_succ]
            refine anyR_done (by kernel_rfl) ?_ _
            refine NoPanic.normal ?_
            go_wp2_with fail
            go_meet
            case rel => exact ⟨_, _, _, _, _, _, rfl, rfl, k4, KB.out⟩
          · intro K hK
            have SZ := Lib.hid hQ.out.bel.size
            go_simp
            have bX := bel_alloc wY (.cells #[.slice none 0 0] 24)
            replace hQ := Lib.hid hQ.out.alloc9
            replace BX := Lib.hid (bel_trans BX.out bX)
            have G9 := Lib.hid (show w2.heap.size ≤ wY.heap.size from SZ.out)
            obtain ⟨wA3, hwN⟩ : ∃ z, wY.alloc (.cells #[.slice none 0 0] 24) = z := ⟨_, rfl⟩
            rw [hwN] at hQ BX
            rw [hwN]
            have hT := SX.out wA3 hQ.out.bel BX.out
            refine hK.out _ _ (fun _ => hT) ?_
            clear hS bX hwN
            have hS := hT
            clear hT
            clear hK K
            try simp only [Act.put, List.setIfInBounds_toArray, List.set_cons_zero, List.set_cons_succ, List.getElem_toArray, List.getElem_cons_zero, List.getElem_cons_succ]
            refine anyR_one (i := 10) (by kernel_rfl) rfl ?_
            intro K hK
            have SZ := Lib.hid hQ.out.bel.size
            go_simp
            have bX := bel_alloc wA3 (.cells #[.int .i64 0] 2)
            replace hQ := Lib.hid hQ.out.alloc8
            replace BX := Lib.hid (bel_trans BX.out bX)
            have G8 := Lib.hid (show w2.heap.size ≤ wA3.heap.size from SZ.out)
            obtain ⟨wA4, hwN⟩ : ∃ z, wA3.alloc (.cells #[.int .i64 0] 2) = z := ⟨_, rfl⟩
            rw [hwN] at hQ BX
            rw [hwN]
            have hT := SX.out wA4 hQ.out.bel BX.out
            refine hK.out _ _ (fun _ => hT) ?_
            clear hS bX hwN
            have hS := hT
            clear hT
            clear hK K
            try simp only [Act.put, List.setIfInBounds_toArray, List.set_cons_zero, List.set_cons_succ, List.getElem_toArray, List.getElem_cons_zero, List.getElem_cons_succ]
            obtain ⟨W1, hW1, k0, k1, k2, k3, k4⟩ := hQ.out.ends (strg n P f t)
            have KB := Lib.hid (hQ.out.done (by have := G8.out; omega) (by have := G9.out; omega) (strg n P f t))
            rw [← hW1] at KB
            have HW1 := Lib.hid hW1.symm
            clear hW1
            refine anyR_one (i := 12) (by kernel_rfl) rfl ?_
            intro K hK
            go_simp
            rw [HW1.out]
            refine hK.out _ _ (fun h => absurd h (by decide)) ?_
            clear hK K
            try simp only [Act.put, List.setIfInBounds_toArray, List.set_cons_zero, List.set_cons_succ, List.getElem_toArray, List.getElem_cons_zero, List.getElem_cons_succ]
            refine anyR_one (i := 13) (by kernel_rfl) rfl ?_
            intro K hK
            go_simp
            refine hK.out _ _ (fun h => absurd h (by decide)) ?_
            clear hK K
            try simp only [Act.put, List.setIfInBounds_toArray, List.set_cons_zero, List.set_cons_succ, List.getElem_toArray, List.getElem_cons_zero, List.getElem_cons_succ]
            refine anyR_done (by kernel_rfl) ?_ _
            refine NoPanic.normal ?_
            go_wp2_with fail
            go_meet
            case rel => exact ⟨_, _, _, _, _, _, rfl, rfl, k4, KB.out⟩
        · intro K hK
          have SZ := Lib.hid hQ.out.bel.size
          go_simp
          have bX := bel_alloc wX (.cells #[.int .i64 0] 2)
          replace hQ := Lib.hid hQ.out.alloc8
          replace BX := Lib.hid (bel_trans BX.out bX)
          have G8 := Lib.hid (show w2.heap.size ≤ wX.heap.size from SZ.out)
          obtain ⟨wA5, hwN⟩ : ∃ z, wX.alloc (.cells #[.int .i64 0] 2) = z := ⟨_, rfl⟩
          rw [hwN] at hQ BX
          rw [hwN]
          have hT := SX.out wA5 hQ.out.bel BX.out
          refine hK.out _ _ (fun _ => hT) ?_
          clear hS bX hwN
          have hS := hT
          clear hT
          clear hK K
          try simp only [Act.put, List.setIfInBounds_toArray, List.set_cons_zero, List.set_cons_succ, List.getElem_toArray, List.getElem_cons_zero, List.getElem_cons_succ]
          refine anyR_two (i := 9) (j := 11) (by kernel_rfl) rfl rfl ?_ ?_
          · intro K hK
            go_simp
            go_at_call 33
            refine (P0.out _ (H2.out.below hQ.out.bel)).mono ?_
            rintro e wY ⟨gP, cP, vP, rfl, oP, bX⟩
            replace hQ := Lib.hid (hQ.out.mat oP bX)
            replace BX := Lib.hid (bel_trans BX.out bX)
            have hT := SX.out wY hQ.out.bel BX.out
            refine hK.out _ _ (fun _ => hT) ?_
            clear hS bX oP
            have hS := hT
            clear hT
            clear hK K
            try simp only [Act.put, List.setIfInBounds_toArray, List.set_cons_zero, List.set_cons_succ, List.getElem_toArray, List.getElem_cons_zero, List.getElem_cons_succ]
            refine anyR_one (i := 11) (by kernel_rfl) rfl ?_
            intro K hK
            have SZ := Lib.hid hQ.out.bel.size
            go_simp
            have bX := bel_alloc wY (.cells #[.slice none 0 0] 24)
            replace hQ := Lib.hid hQ.out.alloc9
            replace BX := Lib.hid (bel_trans BX.out bX)
            have G9 := Lib.hid (show w2.heap.size ≤ wY.heap.size from SZ.out)
            obtain ⟨wA6, hwN⟩ : ∃ z, wY.alloc (.cells #[.slice none 0 0] 24) = z := ⟨_, rfl⟩
            rw [hwN] at hQ BX
            rw [hwN]
            have hT := SX.out wA6 hQ.out.bel BX.out
            refine hK.out _ _ (fun _ => hT) ?_
            clear hS bX hwN
            have hS := hT
            clear hT
            clear hK K
            try simp only [Act.put, List.setIfInBounds_toArray, List.set_cons_zero, List.set_cons_succ, List.getElem_toArray, List.getElem_cons_zero, List.getElem_cons_succ]
            obtain ⟨W1, hW1, k0, k1, k2, k3, k4⟩ := hQ.out.ends (strg n P f t)
            have KB := Lib.hid (hQ.out.done (by have := G8.out; omega) (by have := G9.out; omega) (strg n P f t))
            rw [← hW1] at KB
            have HW1 := Lib.hid hW1.symm
            clear hW1
            refine anyR_one (i := 12) (by kernel_rfl) rfl ?_
            intro K hK
            go_simp
            rw [HW1.out]
            refine hK.out _ _ (fun h => absurd h (by decide)) ?_
            clear hK K
            try simp only [Act.put, List.setIfInBounds_toArray, List.set_cons_zero, List.set_cons_succ, List.getElem_toArray, List.getElem_cons_zero, List.getElem_cons_succ]
            refine anyR_one (i := 13) (by kernel_rfl) rfl ?_
            intro K hK
            go_simp
            refine hK.out _ _ (fun h => absurd h (by decide)) ?_
            clear hK K
            try simp only [Act.put, List.setIfInBounds_toArray, List.set_cons_zero, List.set_cons_succ, List.getElem_toArray, List.getElem_cons_zero, List.getElem_cons_succ]
            refine anyR_done (by kernel_rfl) ?_ _
            refine NoPanic.normal ?_
            go_wp2_with fail
            go_meet
            case rel => exact ⟨_, _, _, _, _, _, rfl, rfl, k4, KB.out⟩
          · intro K hK
            have SZ := Lib.hid hQ.out.bel.size
            go_simp
            have bX := bel_alloc wA5 (.cells #[.slice none 0 0] 24)
            replace hQ := Lib.hid hQ.out.alloc9
            replace BX := Lib.hid (bel_trans BX.out bX)
            have G9 := Lib.hid (show w2.heap.size ≤ wA5.heap.size from SZ.out)
            obtain ⟨wA7, hwN⟩ : ∃ z, wA5.alloc (.cells #[.slice none 0 0] 24) = z := ⟨_, rfl⟩
            rw [hwN] at hQ BX
            rw [hwN]
            have hT := SX.out wA7 hQ.out.bel BX.out
            refine hK.out _ _ (fun _ => hT) ?_
            clear hS bX hwN
            have hS := hT
            clear hT
            clear hK K
            try simp only [Act.put, List.setIfInBounds_toArray, List.set_cons_zero, List.set_cons_succ, List.getElem_toArray, List.getElem_cons_zero, List.getElem_cons_succ]
            refine anyR_one (i := 9) (by kernel_rfl) rfl ?_
            intro K hK
            go_simp
            go_at_call 33
            refine (P0.out _ (H2.out.below hQ.out.bel)).mono ?_
            rintro e wY ⟨gP, cP, vP, rfl, oP, bX⟩
            replace hQ := Lib.hid (hQ.out.mat oP bX)
            replace BX := Lib.hid (bel_trans BX.out bX)
            have hT := SX.out wY hQ.out.bel BX.out
            refine hK.out _ _ (fun _ => hT) ?_
            clear hS bX oP
            have hS := hT
            clear hT
            clear hK K
            try simp only [Act.put, List.setIfInBounds_toArray, List.set_cons_zero, List.set_cons_succ, List.getElem_toArray, List.getElem_cons_zero, List.getElem_cons_succ]
            obtain ⟨W1, hW1, k0, k1, k2, k3, k4⟩ := hQ.out.ends (strg n P f t)
            have KB := Lib.hid (hQ.out.done (by have := G8.out; omega) (by have := G9.out; omega) (strg n P f t))
            rw [← hW1] at KB
            have HW1 := Lib.hid hW1.symm
            clear hW1
            refine anyR_one (i := 12) (by kernel_rfl) rfl ?_
            intro K hK
            go_simp
            rw [HW1.out]
            refine hK.out _ _ (fun h => absurd h (by decide)) ?_
            clear hK K
            try simp only [Act.put, List.setIfInBounds_toArray, List.set_cons_zero, List.set_cons_succ, List.getElem_toArray, List.getElem_cons_zero, List.getElem_cons_succ]
            refine anyR_one (i := 13) (by kernel_rfl) rfl ?_
            intro K hK
            go_simp
            refine hK.out _ _ (fun h => absurd h (by decide)) ?_
            clear hK K
            try simp only [Act.put, List.setIfInBounds_toArray, List.set_cons_zero, List.set_cons_succ, List.getElem_toArray, List.getElem_cons_zero, List.getElem_cons_succ]
            refine anyR_done (by kernel_rfl) ?_ _
            refine NoPanic.normal ?_
            go_wp2_with fail
            go_meet
            case rel => exact ⟨_, _, _, _, _, _, rfl, rfl, k4, KB.out⟩
        · intro K hK
          have SZ := Lib.hid hQ.out.bel.size
          go_simp
          have bX := bel_alloc wX (.cells #[.slice none 0 0] 24)
          replace hQ := Lib.hid hQ.out.alloc9
          replace BX := Lib.hid (bel_trans BX.out bX)
          have G9 := Lib.hid (show w2.heap.size ≤ wX.heap.size from SZ.out)
          obtain ⟨wA8, hwN⟩ : ∃ z, wX.alloc (.cells #[.slice none 0 0] 24) = z := ⟨_, rfl⟩
          rw [hwN] at hQ BX
          rw [hwN]
          have hT := SX.out wA8 hQ.out.bel BX.out
          refine hK.out _ _ (fun _ => hT) ?_
          clear hS bX hwN
          have hS := hT
          clear hT
          clear hK K
          try simp only [Act.put, List.setIfInBounds_toArray, List.set_cons_zero, List.set_cons_succ, List.getElem_toArray, List.getElem_cons_zero, List.getElem_cons_succ]
          refine anyR_two (i := 9) (j := 10) (by kernel_rfl) rfl rfl ?_ ?_
          · intro K hK
            go_simp
            go_at_call 33
            refine (P0.out _ (H2.out.below hQ.out.bel)).mono ?_
            rintro e wY ⟨gP, cP, vP, rfl, oP, bX⟩
            replace hQ := Lib.hid (hQ.out.mat oP bX)
            replace BX := Lib.hid (bel_trans BX.out bX)
            have hT := SX.out wY hQ.out.bel BX.out
            refine hK.out _ _ (fun _ => hT) ?_
            clear hS bX oP
            have hS := hT
            clear hT
            clear hK K
            try simp only [Act.put, List.setIfInBounds_toArray, List.set_cons_zero, List.set_cons_succ, List.getElem_toArray, List.getElem_cons_zero, List.getElem_cons_succ]
            refine anyR_one (i := 10) (by kernel_rfl) rfl ?_
            intro K hK
            have SZ := Lib.hid hQ.out.bel.size
            go_simp
            have bX := bel_alloc wY (.cells #[.int .i64 0] 2)
            replace hQ := Lib.hid hQ.out.alloc8
            replace BX := Lib.hid (bel_trans BX.out bX)
            have G8 := Lib.hid (show w2.heap.size ≤ wY.heap.size from SZ.out)
            obtain ⟨wA9, hwN⟩ : ∃ z, wY.alloc (.cells #[.int .i64 0] 2) = z := ⟨_, rfl⟩
            rw [hwN] at hQ BX
            rw [hwN]
            have hT := SX.out wA9 hQ.out.bel BX.out
            refine hK.out _ _ (fun _ => hT) ?_
            clear hS bX hwN
            have hS := hT
            clear hT
            clear hK K
            try simp only [Act.put, List.setIfInBounds_toArray, List.set_cons_zero, List.set_cons_succ, List.getElem_toArray, List.getElem_cons_zero, List.getElem_cons_succ]
            obtain ⟨W1, hW1, k0, k1, k2, k3, k4⟩ := hQ.out.ends (strg n P f t)
            have KB := Lib.hid (hQ.out.done (by have := G8.out; omega) (by have := G9.out; omega) (strg n P f t))
            rw [← hW1] at KB
            have HW1 := Lib.hid hW1.symm
            clear hW1
            refine anyR_one (i := 12) (by kernel_rfl) rfl ?_
            intro K hK
            go_simp
            rw [HW1.out]
            refine hK.out _ _ (fun h => absurd h (by decide)) ?_
            clear hK K
            try simp only [Act.put, List.setIfInBounds_toArray, List.set_cons_zero, List.set_cons_succ, List.getElem_toArray, List.getElem_cons_zero, List.getElem_cons_succ]
            refine anyR_one (i := 13) (by kernel_rfl) rfl ?_
            intro K hK
            go_simp
            refine hK.out _ _ (fun h => absurd h (by decide)) ?_
            clear hK K
            try simp only [Act.put, List.setIfInBounds_toArray, List.set_cons_zero, List.set_cons_succ, List.getElem_toArray, List.getElem_cons_zero, List.getElem_cons_succ]
            refine anyR_done (by kernel_rfl) ?_ _
            refine NoPanic.normal ?_
            go_wp2_with fail
            go_meet
            case rel => exact ⟨_, _, _, _, _, _, rfl, rfl, k4, KB.out⟩
          · intro K hK
            have SZ := Lib.hid hQ.out.bel.size
            go_simp
            have bX := bel_alloc wA8 (.cells #[.int .i64 0] 2)
            replace hQ := Lib.hid hQ.out.alloc8
            replace BX := Lib.hid (bel_trans BX.out bX)
            have G8 := Lib.hid (show w2.heap.size ≤ wA8.heap.size from SZ.out)
            obtain ⟨wA10, hwN⟩ : ∃ z, wA8.alloc (.cells #[.int .i64 0] 2) = z := ⟨_, rfl⟩
            rw [hwN] at hQ BX
            rw [hwN]
            have hT := SX.out wA10 hQ.out.bel BX.out
            refine hK.out _ _ (fun _ => hT) ?_
            clear hS bX hwN
            have hS := hT
            clear hT
            clear hK K
            try simp only [Act.put, List.setIfInBounds_toArray, List.set_cons_zero, List.set_cons_succ, List.getElem_toArray, List.getElem_cons_zero, List.getElem_cons_succ]
            refine anyR_one (i := 9) (by kernel_rfl) rfl ?_
            intro K hK
            go_simp
            go_at_call 33
            refine (P0.out _ (H2.out.below hQ.out.bel)).mono ?_
            rintro e wY ⟨gP, cP, vP, rfl, oP, bX⟩
            replace hQ := Lib.hid (hQ.out.mat oP bX)
            replace BX := Lib.hid (bel_trans BX.out bX)
            have hT := SX.out wY hQ.out.bel BX.out
            refine hK.out _ _ (fun _ => hT) ?_
            clear hS bX oP
            have hS := hT
            clear hT
            clear hK K
            try simp only [Act.put, List.setIfInBounds_toArray, List.set_cons_zero, List.set_cons_succ, List.getElem_toArray, List.getElem_cons_zero, List.getElem_cons_succ]
            obtain ⟨W1, hW1, k0, k1, k2, k3, k4⟩ := hQ.out.ends (strg n P f t)
            have KB := Lib.hid (hQ.out.done (by have := G8.out; omega) (by have := G9.out; omega) (strg n P f t))
            rw [← hW1] at KB
            have HW1 := Lib.hid hW1.symm
            clear hW1
            refine anyR_one (i := 12) (by kernel_rfl) rfl ?_
            intro K hK
            go_simp
            rw [HW1.out]
            refine hK.out _ _ (fun h => absurd h (by decide)) ?_
            clear hK K
            try simp only [Act.put, List.setIfInBounds_toArray, List.set_cons_zero, List.set_cons_succ, List.getElem_toArray, List.getElem_cons_zero, List.getElem_cons_succ]
            refine anyR_one (i := 13) (by kernel_rfl) rfl ?_
            intro K hK
            go_simp
            refine hK.out _ _ (fun h => absurd h (by decide)) ?_
            clear hK K
            try simp only [Act.put, List.setIfInBounds_toArray, List.set_cons_zero, List.set_cons_succ, List.getElem_toArray, List.getElem_cons_zero, List.getElem_cons_succ]
            refine anyR_done (by kernel_rfl) ?_ _
            refine NoPanic.normal ?_
            go_wp2_with fail
            go_meet
            case rel => exact ⟨_, _, _, _, _, _, rfl, rfl, k4, KB.out⟩
      · intro K hK
        have SZ := Lib.hid hQ.out.bel.size
        go_simp
        have bX := bel_alloc wD (.cells #[.int .i64 0] 2)
        replace hQ := Lib.hid hQ.out.alloc8
        have G8 := Lib.hid (show w2.heap.size ≤ wD.heap.size from SZ.out)
        obtain ⟨wA11, hwN⟩ : ∃ z, wD.alloc (.cells #[.int .i64 0] 2) = z := ⟨_, rfl⟩
        rw [hwN] at hQ
        rw [hwN]
        have hT := SS.out wA11 hQ.out.bel
        refine hK.out _ _ (fun _ => hT) ?_
        clear hS bX hwN
        have hS := hT
        clear hT
        clear hK K
        try simp only [Act.put, List.setIfInBounds_toArray, List.set_cons_zero, List.set_cons_succ, List.getElem_toArray, List.getElem_cons_zero, List.getElem_cons_succ]
        refine anyR_two (i := 1) (j := 11) (by kernel_rfl) rfl rfl ?_ ?_
        · intro K hK
          go_simp
          go_at_call 34
          refine (T0.out _ (H2.out.below hQ.out.bel)).mono ?_
          rintro e wX ⟨gS, cS, vS, rfl, oS, bX⟩
          replace hQ := Lib.hid (hQ.out.below bX)
          have hT := SS.out wX hQ.out.bel
          refine hK.out _ _ (fun _ => hT) ?_
          clear hS
          have hS := hT
          clear hT
          clear hK K
          try simp only [Act.put, List.setIfInBounds_toArray, List.set_cons_zero, List.set_cons_succ, List.getElem_toArray, List.getElem_cons_zero, List.getElem_cons_succ]
          obtain ⟨a1, r1, R1⟩ := oS.rowAt hf
          have BX := Lib.hid (Below.refl wX.heap.size wX)
          have u1 : wX.cell? ⟨gS, f, none⟩ = some (.slice (some ⟨a1, 0, none⟩) n r1) := R1.cell
          have x1 : wX.cell? ⟨a1, t, none⟩ = some (.int .i64 (strg n P f t)) := R1.at' t ht
          have l1 := R1.glt
          have l2 := R1.lt
          have SX := Lib.hid (fun (W : World) (hB : Below w2.heap.size w2 W) (hW : Below wX.heap.size wX W) => (show (Below w2.heap.size w2 W ∧ W.cell? ⟨w.heap.size, 0, none⟩ = some (.slice RA rs.length rc) ∧ W.cell? ⟨w.heap.size, 1, none⟩ = some (.slice WA rs.length wc)) ∧ W.cell? ⟨gS, f, none⟩ = some (.slice (some ⟨a1, 0, none⟩) n r1) ∧ W.cell? ⟨a1, t, none⟩ = some (.int .i64 (strg n P f t)) from
            ⟨SS.out W hB, (hW.cell (p := ⟨gS, f, none⟩) l1).trans u1, (hW.cell (p := ⟨a1, t, none⟩) l2).trans x1⟩))
          refine anyR_mono (R' := inFirst (fun W => (Below w2.heap.size w2 W ∧ W.cell? ⟨w.heap.size, 0, none⟩ = some (.slice RA rs.length rc) ∧ W.cell? ⟨w.heap.size, 1, none⟩ = some (.slice WA rs.length wc)) ∧ W.cell? ⟨gS, f, none⟩ = some (.slice (some ⟨a1, 0, none⟩) n r1) ∧ W.cell? ⟨a1, t, none⟩ = some (.int .i64 (strg n P f t))) 12) (fun i W h hi => (h hi).1) _ _ _ _ ?_
          replace hS := SX.out wX hQ.out.bel BX.out
          clear bX R1 oS u1 x1 l1 l2
          refine anyR_take (i := 3) (.pointer (some ⟨gS, f, none⟩)) rfl (by kernel_rfl) (by kernel_rfl) (by kernel_rfl) (by kernel_rfl) (fun _ _ _ h => h) (by assumption) ⟨by rfl, ?_⟩ ?_
          · intro W hW
            go_simp
          try simp only [Act.put, List.setIfInBounds_toArray, List.set_cons_zero, List.set_cons_succ, List.getElem_toArray, List.getElem_cons_zero, List.getElem_cons_succ]
          refine anyR_take (i := 4) (.slice (some ⟨a1, 0, none⟩) n r1) rfl (by kernel_rfl) (by kernel_rfl) (by kernel_rfl) (by kernel_rfl) (fun _ _ _ h => h) (by assumption) ⟨by rfl, ?_⟩ ?_
          · intro W hW
            go_simp
          try simp only [Act.put, List.setIfInBounds_toArray, List.set_cons_zero, List.set_cons_succ, List.getElem_toArray, List.getElem_cons_zero, List.getElem_cons_succ]
          refine anyR_take (i := 6) (.pointer (some ⟨a1, t, none⟩)) rfl (by kernel_rfl) (by kernel_rfl) (by kernel_rfl) (by kernel_rfl) (fun _ _ _ h => h) (by assumption) ⟨by rfl, ?_⟩ ?_
          · intro W hW
            go_simp
          try simp only [Act.put, List.setIfInBounds_toArray, List.set_cons_zero, List.set_cons_succ, List.getElem_toArray, List.getElem_cons_zero, List.getElem_cons_succ]
          refine anyR_take (i := 7) (.int .i64 (strg n P f t)) rfl (by kernel_rfl) (by kernel_rfl) (by kernel_rfl) (by kernel_rfl) (fun _ _ _ h => h) (by assumption) ⟨by rfl, ?_⟩ ?_
          · intro W hW
            go_simp
          try simp only [Act.put, List.setIfInBounds_toArray, List.set_cons_zero, List.set_cons_succ, List.getElem_toArray, List.getElem_cons_zero, List.getElem_cons_succ]
          refine anyR_two (i := 9) (j := 11) (by kernel_rfl) rfl rfl ?_ ?_
          · intro K hK
            go_simp
            go_at_call 33
            refine (P0.out _ (H2.out.below hQ.out.bel)).mono ?_
            rintro e wY ⟨gP, cP, vP, rfl, oP, bX⟩
            replace hQ := Lib.hid (hQ.out.mat oP bX)
            replace BX := Lib.hid (bel_trans BX.out bX)
            have hT := SX.out wY hQ.out.bel BX.out
            refine hK.out _ _ (fun _ => hT) ?_
            clear hS bX oP
            have hS := hT
            clear hT
            clear hK K
            try simp only [Act.put, List.setIfInBounds_toArray, List.set_cons_zero, List.set_cons_succ, List.getElem_toArray, List.getElem_cons_zero, List.getElem_cons_succ]
            refine anyR_one (i := 11) (by kernel_rfl) rfl ?_
            intro K hK
            have SZ := Lib.hid hQ.out.bel.size
            go_simp
            have bX := bel_alloc wY (.cells #[.slice none 0 0] 24)
            replace hQ := Lib.hid hQ.out.alloc9
            replace BX := Lib.hid (bel_trans BX.out bX)
            have G9 := Lib.hid (show w2.heap.size ≤ wY.heap.size from SZ.out)
            obtain ⟨wA12, hwN⟩ : ∃ z, wY.alloc (.cells #[.slice none 0 0] 24) = z := ⟨_, rfl⟩
            rw [hwN] at hQ BX
            rw [hwN]
            have hT := SX.out wA12 hQ.out.bel BX.out
            refine hK.out _ _ (fun _ => hT) ?_
            clear hS bX hwN
            have hS := hT
            clear hT
            clear hK K
            try simp only [Act.put, List.setIfInBounds_toArray, List.set_cons_zero, List.set_cons_succ, List.getElem_toArray, List.getElem_cons_zero, List.getElem_cons_succ]
            obtain ⟨W1, hW1, k0, k1, k2, k3, k4⟩ := hQ.out.ends (strg n P f t)
            have KB := Lib.hid (hQ.out.done (by have := G8.out; omega) (by have := G9.out; omega) (strg n P f t))
            rw [← hW1] at KB
            have HW1 := Lib.hid hW1.symm
            clear hW1
            refine anyR_one (i := 12) (by kernel_rfl) rfl ?_
            intro K hK
            go_simp
            rw [HW1.out]
            refine hK.out _ _ (fun h => absurd h (by decide)) ?_
            clear hK K
            try simp only [Act.put, List.setIfInBounds_toArray, List.set_cons_zero, List.set_cons_succ, List.getElem_toArray, List.getElem_cons_zero, List.getElem_cons_succ]
            refine anyR_one (i := 13) (by kernel_rfl) rfl ?_
            intro K hK
            go_simp
            refine hK.out _ _ (fun h => absurd h (by decide)) ?_
            clear hK K
            try simp only [Act.put, List.setIfInBounds_toArray, List.set_cons_zero, List.set_cons_succ, List.getElem_toArray, List.getElem_cons_zero, List.getElem_cons_succ]
            refine anyR_done (by kernel_rfl) ?_ _
            refine NoPanic.normal ?_
            go_wp2_with fail
            go_meet
            case rel => exact ⟨_, _, _, _, _, _, rfl, rfl, k4, KB.out⟩
          · intro K hK
            have SZ := Lib.hid hQ.out.bel.size
            go_simp
            have bX := bel_alloc wX (.cells #[.slice none 0 0] 24)
            replace hQ := Lib.hid hQ.out.alloc9
            replace BX := Lib.hid (bel_trans BX.out bX)
            have G9 := Lib.hid (show w2.heap.size ≤ wX.heap.size from SZ.out)
            obtain ⟨wA13, hwN⟩ : ∃ z, wX.alloc (.cells #[.slice none 0 0] 24) = z := ⟨_, rfl⟩
            rw [hwN] at hQ BX
            rw [hwN]
            have hT := SX.out wA13 hQ.out.bel BX.out
            refine hK.out _ _ (fun _ => hT) ?_
            clear hS bX hwN
            have hS := hT
            clear hT
            clear hK K
            try simp only [Act.put, List.setIfInBounds_toArray, List.set_cons_zero, List.set_cons_succ, List.getElem_toArray, List.getElem_cons_zero, List.getElem_cons_succ]
            refine anyR_one (i := 9) (by kernel_rfl) rfl ?_
            intro K hK
            go_simp
            go_at_call 33
            refine (P0.out _ (H2.out.below hQ.out.bel)).mono ?_
            rintro e wY ⟨gP, cP, vP, rfl, oP, bX⟩
            replace hQ := Lib.hid (hQ.out.mat oP bX)
            replace BX := Lib.hid (bel_trans BX.out bX)
            have hT := SX.out wY hQ.out.bel BX.out
            refine hK.out _ _ (fun _ => hT) ?_
            clear hS bX oP
            have hS := hT
            clear hT
            clear hK K
            try simp only [Act.put, List.setIfInBounds_toArray, List.set_cons_zero, List.set_cons_succ, List.getElem_toArray, List.getElem_cons_zero, List.getElem_cons_succ]
            obtain ⟨W1, hW1, k0, k1, k2, k3, k4⟩ := hQ.out.ends (strg n P f t)
            have KB := Lib.hid (hQ.out.done (by have := G8.out; omega) (by have := G9.out; omega) (strg n P f t))
            rw [← hW1] at KB
            have HW1 := Lib.hid hW1.symm
            clear hW1
            refine anyR_one (i := 12) (by kernel_rfl) rfl ?_
            intro K hK
            go_simp
            rw [HW1.out]
            refine hK.out _ _ (fun h => absurd h (by decide)) ?_
            clear hK K
            try simp only [Act.put, List.setIfInBounds_toArray, List.set_cons_zero, List.set_cons_succ, List.getElem_toArray, List.getElem_cons_zero, List.getElem_cons_succ]
            refine anyR_one (i := 13) (by kernel_rfl) rfl ?_
            intro K hK
            go_simp
            refine hK.out _ _ (fun h => absurd h (by decide)) ?_
            clear hK K
            try simp only [Act.put, List.setIfInBounds_toArray, List.set_cons_zero, List.set_cons_succ, List.getElem_toArray, List.getElem_cons_zero, List.getElem_cons_succ]
            refine anyR_done (by kernel_rfl) ?_ _
            refine NoPanic.normal ?_
            go_wp2_with fail
            go_meet
            case rel => exact ⟨_, _, _, _, _, _, rfl, rfl, k4, KB.out⟩
        · intro K hK
          have SZ := Lib.hid hQ.out.bel.size
          go_simp
          have bX := bel_alloc wA11 (.cells #[.slice none 0 0] 24)
          replace hQ := Lib.hid hQ.out.alloc9
          have G9 := Lib.hid (show w2.heap.size ≤ wA11.heap.size from SZ.out)
          obtain ⟨wA14, hwN⟩ : ∃ z, wA11.alloc (.cells #[.slice none 0 0] 24) = z := ⟨_, rfl⟩
          rw [hwN] at hQ
          rw [hwN]
          have hT := SS.out wA14 hQ.out.bel
          refine hK.out _ _ (fun _ => hT) ?_
          clear hS bX hwN
          have hS := hT
          clear hT
          clear hK K
          try simp only [Act.put, List.setIfInBounds_toArray, List.set_cons_zero, List.set_cons_succ, List.getElem_toArray, List.getElem_cons_zero, List.getElem_cons_succ]
          refine anyR_one (i := 1) (by kernel_rfl) rfl ?_
          intro K hK
          go_simp
          go_at_call 34
          refine (T0.out _ (H2.out.below hQ.out.bel)).mono ?_
          rintro e wX ⟨gS, cS, vS, rfl, oS, bX⟩
          replace hQ := Lib.hid (hQ.out.below bX)
          have hT := SS.out wX hQ.out.bel
          refine hK.out _ _ (fun _ => hT) ?_
          clear hS
          have hS := hT
          clear hT
          clear hK K
          try simp only [Act.put, List.setIfInBounds_toArray, List.set_cons_zero, List.set_cons_succ, List.getElem_toArray, List.getElem_cons_zero, List.getElem_cons_succ]
          obtain ⟨a1, r1, R1⟩ := oS.rowAt hf
          have BX := Lib.hid (Below.refl wX.heap.size wX)
          have u1 : wX.cell? ⟨gS, f, none⟩ = some (.slice (some ⟨a1, 0, none⟩) n r1) := R1.cell
          have x1 : wX.cell? ⟨a1, t, none⟩ = some (.int .i64 (strg n P f t)) := R1.at' t ht
          have l1 := R1.glt
          have l2 := R1.lt
          have SX := Lib.hid (fun (W : World) (hB : Below w2.heap.size w2 W) (hW : Below wX.heap.size wX W) => (show (Below w2.heap.size w2 W ∧ W.cell? ⟨w.heap.size, 0, none⟩ = some (.slice RA rs.length rc) ∧ W.cell? ⟨w.heap.size, 1, none⟩ = some (.slice WA rs.length wc)) ∧ W.cell? ⟨gS, f, none⟩ = some (.slice (some ⟨a1, 0, none⟩) n r1) ∧ W.cell? ⟨a1, t, none⟩ = some (.int .i64 (strg n P f t)) from
            ⟨SS.out W hB, (hW.cell (p := ⟨gS, f, none⟩) l1).trans u1, (hW.cell (p := ⟨a1, t, none⟩) l2).trans x1⟩))
          refine anyR_mono (R' := inFirst (fun W => (Below w2.heap.size w2 W ∧ W.cell? ⟨w.heap.size, 0, none⟩ = some (.slice RA rs.length rc) ∧ W.cell? ⟨w.heap.size, 1, none⟩ = some (.slice WA rs.length wc)) ∧ W.cell? ⟨gS, f, none⟩ = some (.slice (some ⟨a1, 0, none⟩) n r1) ∧ W.cell? ⟨a1, t, none⟩ = some (.int .i64 (strg n P f t))) 12) (fun i W h hi => (h hi).1) _ _ _ _ ?_
          replace hS := SX.out wX hQ.out.bel BX.out
          clear bX R1 oS u1 x1 l1 l2
          refine anyR_take (i := 3) (.pointer (some ⟨gS, f, none⟩)) rfl (by kernel_rfl) (by kernel_rfl) (by kernel_rfl) (by kernel_rfl) (fun _ _ _ h => h) (by assumption) ⟨by rfl, ?_⟩ ?_
          · intro W hW
            go_simp
          try simp only [Act.put, List.setIfInBounds_toArray, List.set_cons_zero, List.set_cons_succ, List.getElem_toArray, List.getElem_cons_zero, List.getElem_cons_succ]
          refine anyR_take (i := 4) (.slice (some ⟨a1, 0, none⟩) n r1) rfl (by kernel_rfl) (by kernel_rfl) (by kernel_rfl) (by kernel_rfl) (fun _ _ _ h => h) (by assumption) ⟨by rfl, ?_⟩ ?_
          · intro W hW
            go_simp
          try simp only [Act.put, List.setIfInBounds_toArray, List.set_cons_zero, List.set_cons_succ, List.getElem_toArray, List.getElem_cons_zero, List.getElem_cons_succ]
          refine anyR_take (i := 6) (.pointer (some ⟨a1, t, none⟩)) rfl (by kernel_rfl) (by kernel_rfl) (by kernel_rfl) (by kernel_rfl) (fun _ _ _ h => h) (by assumption) ⟨by rfl, ?_⟩ ?_
          · intro W hW
            go_simp
          try simp only [Act.put, List.setIfInBounds_toArray, List.set_cons_zero, List.set_cons_succ, List.getElem_toArray, List.getElem_cons_zero, List.getElem_cons_succ]
          refine anyR_take (i := 7) (.int .i64 (strg n P f t)) rfl (by kernel_rfl) (by kernel_rfl) (by kernel_rfl) (by kernel_rfl) (fun _ _ _ h => h) (by assumption) ⟨by rfl, ?_⟩ ?_
          · intro W hW
            go_simp
          try simp only [Act.put, List.setIfInBounds_toArray, List.set_cons_zero, List.set_cons_succ, List.getElem_toArray, List.getElem_cons_zero, List.getElem_cons_succ]
          refine anyR_one (i := 9) (by kernel_rfl) rfl ?_
          intro K hK
          go_simp
          go_at_call 33
          refine (P0.out _ (H2.out.below hQ.out.bel)).mono ?_
          rintro e wY ⟨gP, cP, vP, rfl, oP, bX⟩
          replace hQ := Lib.hid (hQ.out.mat oP bX)
          replace BX := Lib.hid (bel_trans BX.out bX)
          have hT := SX.out wY hQ.out.bel BX.out
          refine hK.out _ _ (fun _ => hT) ?_
          clear hS bX oP
          have hS := hT
          clear hT
          clear hK K
          try simp only [Act.put, List.setIfInBounds_toArray, List.set_cons_zero, List.set_cons_succ, List.getElem_toArray, List.getElem_cons_zero, List.getElem_cons_succ]
          obtain ⟨W1, hW1, k0, k1, k2, k3, k4⟩ := hQ.out.ends (strg n P f t)
          have KB := Lib.hid (hQ.out.done (by have := G8.out; omega) (by have := G9.out; omega) (strg n P f t))
          rw [← hW1] at KB
          have HW1 := Lib.hid hW1.symm
          clear hW1
          refine anyR_one (i := 12) (by kernel_rfl) rfl ?_
          intro K hK
          go_simp
          rw [HW1.out]
          refine hK.out _ _ (fun h => absurd h (by decide)) ?_
          clear hK K
          try simp only [Act.put, List.setIfInBounds_toArray, List.set_cons_zero, List.set_cons_succ, List.getElem_toArray, List.getElem_cons_zero, List.getElem_cons_succ]
          refine anyR_one (i := 13) (by kernel_rfl) rfl ?_
          intro K hK
          go_simp
          refine hK.out _ _ (fun h => absurd h (by decide)) ?_
          clear hK K
          try simp only [Act.put, List.setIfInBounds_toArray, List.set_cons_zero, List.set_cons_succ, List.getElem_toArray, List.getElem_cons_zero, List.getElem_cons_succ]
          refine anyR_done (by kernel_rfl) ?_ _
          refine NoPanic.normal ?_
          go_wp2_with fail
          go_meet
          case rel => exact ⟨_, _, _, _, _, _, rfl, rfl, k4, KB.out⟩
      · intro K hK
        have SZ := Lib.hid hQ.out.bel.size
        go_simp
        have bX := bel_alloc wD (.cells #[.slice none 0 0] 24)
        replace hQ := Lib.hid hQ.out.alloc9
        have G9 := Lib.hid (show w2.heap.size ≤ wD.heap.size from SZ.out)
        obtain ⟨wA15, hwN⟩ : ∃ z, wD.alloc (.cells #[.slice none 0 0] 24) = z := ⟨_, rfl⟩
        rw [hwN] at hQ
        rw [hwN]
        have hT := SS.out wA15 hQ.out.bel
        refine hK.out _ _ (fun _ => hT) ?_
        clear hS bX hwN
        have hS := hT
        clear hT
        clear hK K
        try simp only [Act.put, List.setIfInBounds_toArray, List.set_cons_zero, List.set_cons_succ, List.getElem_toArray, List.getElem_cons_zero, List.getElem_cons_succ]
        refine anyR_two (i := 1) (j := 10) (by kernel_rfl) rfl rfl ?_ ?_
        · intro K hK
          go_simp
          go_at_call 34
          refine (T0.out _ (H2.out.below hQ.out.bel)).mono ?_
          rintro e wX ⟨gS, cS, vS, rfl, oS, bX⟩
          replace hQ := Lib.hid (hQ.out.below bX)
          have hT := SS.out wX hQ.out.bel
          refine hK.out _ _ (fun _ => hT) ?_
          clear hS
          have hS := hT
          clear hT
          clear hK K
          try simp only [Act.put, List.setIfInBounds_toArray, List.set_cons_zero, List.set_cons_succ, List.getElem_toArray, List.getElem_cons_zero, List.getElem_cons_succ]
          obtain ⟨a1, r1, R1⟩ := oS.rowAt hf
          have BX := Lib.hid (Below.refl wX.heap.size wX)
          have u1 : wX.cell? ⟨gS, f, none⟩ = some (.slice (some ⟨a1, 0, none⟩) n r1) := R1.cell
          have x1 : wX.cell? ⟨a1, t, none⟩ = some (.int .i64 (strg n P f t)) := R1.at' t ht
          have l1 := R1.glt
          have l2 := R1.lt
          have SX := Lib.hid (fun (W : World) (hB : Below w2.heap.size w2 W) (hW : Below wX.heap.size wX W) => (show (Below w2.heap.size w2 W ∧ W.cell? ⟨w.heap.size, 0, none⟩ = some (.slice RA rs.length rc) ∧ W.cell? ⟨w.heap.size, 1, none⟩ = some (.slice WA rs.length wc)) ∧ W.cell? ⟨gS, f, none⟩ = some (.slice (some ⟨a1, 0, none⟩) n r1) ∧ W.cell? ⟨a1, t, none⟩ = some (.int .i64 (strg n P f t)) from
            ⟨SS.out W hB, (hW.cell (p := ⟨gS, f, none⟩) l1).trans u1, (hW.cell (p := ⟨a1, t, none⟩) l2).trans x1⟩))
          refine anyR_mono (R' := inFirst (fun W => (Below w2.heap.size w2 W ∧ W.cell? ⟨w.heap.size, 0, none⟩ = some (.slice RA rs.length rc) ∧ W.cell? ⟨w.heap.size, 1, none⟩ = some (.slice WA rs.length wc)) ∧ W.cell? ⟨gS, f, none⟩ = some (.slice (some ⟨a1, 0, none⟩) n r1) ∧ W.cell? ⟨a1, t, none⟩ = some (.int .i64 (strg n P f t))) 12) (fun i W h hi => (h hi).1) _ _ _ _ ?_
          replace hS := SX.out wX hQ.out.bel BX.out
          clear bX R1 oS u1 x1 l1 l2
          refine anyR_take (i := 3) (.pointer (some ⟨gS, f, none⟩)) rfl (by kernel_rfl) (by kernel_rfl) (by kernel_rfl) (by kernel_rfl) (fun _ _ _ h => h) (by assumption) ⟨by rfl, ?_⟩ ?_
          · intro W hW
            go_simp
          try simp only [Act.put, List.setIfInBounds_toArray, List.set_cons_zero, List.set_cons_succ, List.getElem_toArray, List.getElem_cons_zero, List.getElem_cons_succ]
          refine anyR_take (i := 4) (.slice (some ⟨a1, 0, none⟩) n r1) rfl (by kernel_rfl) (by kernel_rfl) (by kernel_rfl) (by kernel_rfl) (fun _ _ _ h => h) (by assumption) ⟨by rfl, ?_⟩ ?_
          · intro W hW
            go_simp
          try simp only [Act.put, List.setIfInBounds_toArray, List.set_cons_zero, List.set_cons_succ, List.getElem_toArray, List.getElem_cons_zero, List.getElem_cons_succ]
          refine anyR_take (i := 6) (.pointer (some ⟨a1, t, none⟩)) rfl (by kernel_rfl) (by kernel_rfl) (by kernel_rfl) (by kernel_rfl) (fun _ _ _ h => h) (by assumption) ⟨by rfl, ?_⟩ ?_
          · intro W hW
            go_simp
          try simp only [Act.put, List.setIfInBounds_toArray, List.set_cons_zero, List.set_cons_succ, List.getElem_toArray, List.getElem_cons_zero, List.getElem_cons_succ]
          refine anyR_take (i := 7) (.int .i64 (strg n P f t)) rfl (by kernel_rfl) (by kernel_rfl) (by kernel_rfl) (by kernel_rfl) (fun _ _ _ h => h) (by assumption) ⟨by rfl, ?_⟩ ?_
          · intro W hW
            go_simp
          try simp only [Act.put, List.setIfInBounds_toArray, List.set_cons_zero, List.set_cons_succ, List.getElem_toArray, List.getElem_cons_zero, List.getElem_cons_succ]
          refine anyR_two (i := 9) (j := 10) (by kernel_rfl) rfl rfl ?_ ?_
          · intro K hK
            go_simp
            go_at_call 33
            refine (P0.out _ (H2.out.below hQ.out.bel)).mono ?_
            rintro e wY ⟨gP, cP, vP, rfl, oP, bX⟩
            replace hQ := Lib.hid (hQ.out.mat oP bX)
            replace BX := Lib.hid (bel_trans BX.out bX)
            have hT := SX.out wY hQ.out.bel BX.out
            refine hK.out _ _ (fun _ => hT) ?_
            clear hS bX oP
            have hS := hT
            clear hT
            clear hK K
            try simp only [Act.put, List.setIfInBounds_toArray, List.set_cons_zero, List.set_cons_succ, List.getElem_toArray, List.getElem_cons_zero, List.getElem_cons_succ]
            refine anyR_one (i := 10) (by kernel_rfl) rfl ?_
            intro K hK
            have SZ := Lib.hid hQ.out.bel.size
            go_simp
            have bX := bel_alloc wY (.cells #[.int .i64 0] 2)
            replace hQ := Lib.hid hQ.out.alloc8
            replace BX := Lib.hid (bel_trans BX.out bX)
            have G8 := Lib.hid (show w2.heap.size ≤ wY.heap.size from SZ.out)
            obtain ⟨wA16, hwN⟩ : ∃ z, wY.alloc (.cells #[.int .i64 0] 2) = z := ⟨_, rfl⟩
            rw [hwN] at hQ BX
            rw [hwN]
            have hT := SX.out wA16 hQ.out.bel BX.out
            refine hK.out _ _ (fun _ => hT) ?_
            clear hS bX hwN
            have hS := hT
            clear hT
            clear hK K
            try simp only [Act.put, List.setIfInBounds_toArray, List.set_cons_zero, List.set_cons_succ, List.getElem_toArray, List.getElem_cons_zero, List.getElem_cons_succ]
            obtain ⟨W1, hW1, k0, k1, k2, k3, k4⟩ := hQ.out.ends (strg n P f t)
            have KB := Lib.hid (hQ.out.done (by have := G8.out; omega) (by have := G9.out; omega) (strg n P f t))
            rw [← hW1] at KB
            have HW1 := Lib.hid hW1.symm
            clear hW1
            refine anyR_one (i := 12) (by kernel_rfl) rfl ?_
            intro K hK
            go_simp
            rw [HW1.out]
            refine hK.out _ _ (fun h => absurd h (by decide)) ?_
            clear hK K
            try simp only [Act.put, List.setIfInBounds_toArray, List.set_cons_zero, List.set_cons_succ, List.getElem_toArray, List.getElem_cons_zero, List.getElem_cons_succ]
            refine anyR_one (i := 13) (by kernel_rfl) rfl ?_
            intro K hK
            go_simp
            refine hK.out _ _ (fun h => absurd h (by decide)) ?_
            clear hK K
            try simp only [Act.put, List.setIfInBounds_toArray, List.set_cons_zero, List.set_cons_succ, List.getElem_toArray, List.getElem_cons_zero, List.getElem_cons_succ]
            refine anyR_done (by kernel_rfl) ?_ _
            refine NoPanic.normal ?_
            go_wp2_with fail
            go_meet
            case rel => exact ⟨_, _, _, _, _, _, rfl, rfl, k4, KB.out⟩
          · intro K hK
            have SZ := Lib.hid hQ.out.bel.size
            go_simp
            have bX := bel_alloc wX (.cells #[.int .i64 0] 2)
            replace hQ := Lib.hid hQ.out.alloc8
            replace BX := Lib.hid (bel_trans BX.out bX)
            have G8 := Lib.hid (show w2.heap.size ≤ wX.heap.size from SZ.out)
            obtain ⟨wA17, hwN⟩ : ∃ z, wX.alloc (.cells #[.int .i64 0] 2) = z := ⟨_, rfl⟩
            rw [hwN] at hQ BX
            rw [hwN]
            have hT := SX.out wA17 hQ.out.bel BX.out
            refine hK.out _ _ (fun _ => hT) ?_
            clear hS bX hwN
            have hS := hT
            clear hT
            clear hK K
            try simp only [Act.put, List.setIfInBounds_toArray, List.set_cons_zero, List.set_cons_succ, List.getElem_toArray, List.getElem_cons_zero, List.getElem_cons_succ]
            refine anyR_one (i := 9) (by kernel_rfl) rfl ?_
            intro K hK
            go_simp
            go_at_call 33
            refine (P0.out _ (H2.out.below hQ.out.bel)).mono ?_
            rintro e wY ⟨gP, cP, vP, rfl, oP, bX⟩
            replace hQ := Lib.hid (hQ.out.mat oP bX)
            replace BX := Lib.hid (bel_trans BX.out bX)
            have hT := SX.out wY hQ.out.bel BX.out
            refine hK.out _ _ (fun _ => hT) ?_
            clear hS bX oP
            have hS := hT
            clear hT
            clear hK K
            try simp only [Act.put, List.setIfInBounds_toArray, List.set_cons_zero, List.set_cons_succ, List.getElem_toArray, List.getElem_cons_zero, List.getElem_cons_succ]
            obtain ⟨W1, hW1, k0, k1, k2, k3, k4⟩ := hQ.out.ends (strg n P f t)
            have KB := Lib.hid (hQ.out.done (by have := G8.out; omega) (by have := G9.out; omega) (strg n P f t))
            rw [← hW1] at KB
            have HW1 := Lib.hid hW1.symm
            clear hW1
            refine anyR_one (i := 12) (by kernel_rfl) rfl ?_
            intro K hK
            go_simp
            rw [HW1.out]
            refine hK.out _ _ (fun h => absurd h (by decide)) ?_
            clear hK K
            try simp only [Act.put, List.setIfInBounds_toArray, List.set_cons_zero, List.set_cons_succ, List.getElem_toArray, List.getElem_cons_zero, List.getElem_cons_succ]
            refine anyR_one (i := 13) (by kernel_rfl) rfl ?_
            intro K hK
            go_simp
            refine hK.out _ _ (fun h => absurd h (by decide)) ?_
            clear hK K
            try simp only [Act.put, List.setIfInBounds_toArray, List.set_cons_zero, List.set_cons_succ, List.getElem_toArray, List.getElem_cons_zero, List.getElem_cons_succ]
            refine anyR_done (by kernel_rfl) ?_ _
            refine NoPanic.normal ?_
            go_wp2_with fail
            go_meet
            case rel => exact ⟨_, _, _, _, _, _, rfl, rfl, k4, KB.out⟩
        · intro K hK
          have SZ := Lib.hid hQ.out.bel.size
          go_simp
          have bX := bel_alloc wA15 (.cells #[.int .i64 0] 2)
          replace hQ := Lib.hid hQ.out.alloc8
          have G8 := Lib.hid (show w2.heap.size ≤ wA15.heap.size from SZ.out)
          obtain ⟨wA18, hwN⟩ : ∃ z, wA15.alloc (.cells #[.int .i64 0] 2) = z := ⟨_, rfl⟩
          rw [hwN] at hQ
          rw [hwN]
          have hT := SS.out wA18 hQ.out.bel
          refine hK.out _ _ (fun _ => hT) ?_
          clear hS bX hwN
          have hS := hT
          clear hT
          clear hK K
          try simp only [Act.put, List.setIfInBounds_toArray, List.set_cons_zero, List.set_cons_succ, List.getElem_toArray, List.getElem_cons_zero, List.getElem_cons_succ]
          refine anyR_one (i := 1) (by kernel_rfl) rfl ?_
          intro K hK
          go_simp
          go_at_call 34
          refine (T0.out _ (H2.out.below hQ.out.bel)).mono ?_
          rintro e wX ⟨gS, cS, vS, rfl, oS, bX⟩
          replace hQ := Lib.hid (hQ.out.below bX)
          have hT := SS.out wX hQ.out.bel
          refine hK.out _ _ (fun _ => hT) ?_
          clear hS
          have hS := hT
          clear hT
          clear hK K
          try simp only [Act.put, List.setIfInBounds_toArray, List.set_cons_zero, List.set_cons_succ, List.getElem_toArray, List.getElem_cons_zero, List.getElem_cons_succ]
          obtain ⟨a1, r1, R1⟩ := oS.rowAt hf
          have BX := Lib.hid (Below.refl wX.heap.size wX)
          have u1 : wX.cell? ⟨gS, f, none⟩ = some (.slice (some ⟨a1, 0, none⟩) n r1) := R1.cell
          have x1 : wX.cell? ⟨a1, t, none⟩ = some (.int .i64 (strg n P f t)) := R1.at' t ht
          have l1 := R1.glt
          have l2 := R1.lt
          have SX := Lib.hid (fun (W : World) (hB : Below w2.heap.size w2 W) (hW : Below wX.heap.size wX W) => (show (Below w2.heap.size w2 W ∧ W.cell? ⟨w.heap.size, 0, none⟩ = some (.slice RA rs.length rc) ∧ W.cell? ⟨w.heap.size, 1, none⟩ = some (.slice WA rs.length wc)) ∧ W.cell? ⟨gS, f, none⟩ = some (.slice (some ⟨a1, 0, none⟩) n r1) ∧ W.cell? ⟨a1, t, none⟩ = some (.int .i64 (strg n P f t)) from
            ⟨SS.out W hB, (hW.cell (p := ⟨gS, f, none⟩) l1).trans u1, (hW.cell (p := ⟨a1, t, none⟩) l2).trans x1⟩))
          refine anyR_mono (R' := inFirst (fun W => (Below w2.heap.size w2 W ∧ W.cell? ⟨w.heap.size, 0, none⟩ = some (.slice RA rs.length rc) ∧ W.cell? ⟨w.heap.size, 1, none⟩ = some (.slice WA rs.length wc)) ∧ W.cell? ⟨gS, f, none⟩ = some (.slice (some ⟨a1, 0, none⟩) n r1) ∧ W.cell? ⟨a1, t, none⟩ = some (.int .i64 (strg n P f t))) 12) (fun i W h hi => (h hi).1) _ _ _ _ ?_
          replace hS := SX.out wX hQ.out.bel BX.out
          clear bX R1 oS u1 x1 l1 l2
          refine anyR_take (i := 3) (.pointer (some ⟨gS, f, none⟩)) rfl (by kernel_rfl) (by kernel_rfl) (by kernel_rfl) (by kernel_rfl) (fun _ _ _ h => h) (by assumption) ⟨by rfl, ?_⟩ ?_
          · intro W hW
            go_simp
          try simp only [Act.put, List.setIfInBounds_toArray, List.set_cons_zero, List.set_cons_succ, List.getElem_toArray, List.getElem_cons_zero, List.getElem_cons_succ]
          refine anyR_take (i := 4) (.slice (some ⟨a1, 0, none⟩) n r1) rfl (by kernel_rfl) (by kernel_rfl) (by kernel_rfl) (by kernel_rfl) (fun _ _ _ h => h) (by assumption) ⟨by rfl, ?_⟩ ?_
          · intro W hW
            go_simp
          try simp only [Act.put, List.setIfInBounds_toArray, List.set_cons_zero, List.set_cons_succ, List.getElem_toArray, List.getElem_cons_zero, List.getElem_cons_succ]
          refine anyR_take (i := 6) (.pointer (some ⟨a1, t, none⟩)) rfl (by kernel_rfl) (by kernel_rfl) (by kernel_rfl) (by kernel_rfl) (fun _ _ _ h => h) (by assumption) ⟨by rfl, ?_⟩ ?_
          · intro W hW
            go_simp
          try simp only [Act.put, List.setIfInBounds_toArray, List.set_cons_zero, List.set_cons_succ, List.getElem_toArray, List.getElem_cons_zero, List.getElem_cons_succ]
          refine anyR_take (i := 7) (.int .i64 (strg n P f t)) rfl (by kernel_rfl) (by kernel_rfl) (by kernel_rfl) (by kernel_rfl) (fun _ _ _ h => h) (by assumption) ⟨by rfl, ?_⟩ ?_
          · intro W hW
            go_simp
          try simp only [Act.put, List.setIfInBounds_toArray, List.set_cons_zero, List.set_cons_succ, List.getElem_toArray, List.getElem_cons_zero, List.getElem_cons_succ]
          refine anyR_one (i := 9) (by kernel_rfl) rfl ?_
          intro K hK
          go_simp
          go_at_call 33
          refine (P0.out _ (H2.out.below hQ.out.bel)).mono ?_
          rintro e wY ⟨gP, cP, vP, rfl, oP, bX⟩
          replace hQ := Lib.hid (hQ.out.mat oP bX)
          replace BX := Lib.hid (bel_trans BX.out bX)
          have hT := SX.out wY hQ.out.bel BX.out
          refine hK.out _ _ (fun _ => hT) ?_
          clear hS bX oP
          have hS := hT
          clear hT
          clear hK K
          try simp only [Act.put, List.setIfInBounds_toArray, List.set_cons_zero, List.set_cons_succ, List.getElem_toArray, List.getElem_cons_zero, List.getElem_cons_succ]
          obtain ⟨W1, hW1, k0, k1, k2, k3, k4⟩ := hQ.out.ends (strg n P f t)
          have KB := Lib.hid (hQ.out.done (by have := G8.out; omega) (by have := G9.out; omega) (strg n P f t))
          rw [← hW1] at KB
          have HW1 := Lib.hid hW1.symm
          clear hW1
          refine anyR_one (i := 12) (by kernel_rfl) rfl ?_
          intro K hK
          go_simp
          rw [HW1.out]
          refine hK.out _ _ (fun h => absurd h (by decide)) ?_
          clear hK K
          try simp only [Act.put, List.setIfInBounds_toArray, List.set_cons_zero, List.set_cons_succ, List.getElem_toArray, List.getElem_cons_zero, List.getElem_cons_succ]
          refine anyR_one (i := 13) (by kernel_rfl) rfl ?_
          intro K hK
          go_simp
          refine hK.out _ _ (fun h => absurd h (by decide)) ?_
          clear hK K
          try simp only [Act.put, List.setIfInBounds_toArray, List.set_cons_zero, List.set_cons_succ, List.getElem_toArray, List.getElem_cons_zero, List.getElem_cons_succ]
          refine anyR_done (by kernel_rfl) ?_ _
          refine NoPanic.normal ?_
          go_wp2_with fail
          go_meet
          case rel => exact ⟨_, _, _, _, _, _, rfl, rfl, k4, KB.out⟩
    case rest =>
      obtain ⟨g1, g2, base, gP, cP, vP, rfl, rfl, cp, bw⟩ := hcut
      rename World => wc0
      have CP := Lib.hid cp
      have BW := Lib.hid bw
      have BB3 := Lib.hid (bel_trans BB2.out bw)
      have CB3 := Lib.hid (CB2.out.below bw)
      have H3 := Lib.hid (H2.out.below bw)
      clear cp bw y0 y1 CB2 BB2 H2
      have y0 := CB3.out.cell 0 rfl
      have y1 := CB3.out.cell 1 rfl
      go_wp2_with fail
      refine (options_ok n rs ws OK.out RA rc WA _ _ H3.out).mono ?_
      rintro e w4 ⟨rfl, b4⟩
      have BB4 := Lib.hid (bel_trans BB3.out b4)
      have CP4 := Lib.hid (CP.out.below b4)
      clear b4 y0 y1 CP BB3 CB3 H3 BW
      go_wp2_with fail
      refine (shortest_ok n f t n6 hf ht HNE.out (edgV P (strg n P f t)) ⟨g1, 0, none⟩ ⟨g2, 0, none⟩ w4 (fun W hW a b ha hb => strCl_ok n n6 P (strg n P f t) a b ha hb gP cP base vP g1 g2 W (CP4.out.below hW).m (CP4.out.below hW).c1 (CP4.out.below hW).c2)).mono ?_
      rintro e w5 ⟨⟨p, A, c, hsp, rfl, hI⟩ | ⟨hno, rfl⟩, b5⟩
      · have BB5 := Lib.hid (bel_trans BB4.out b5)
        have SPP := Lib.hid hsp
        have II := Lib.hid hI
        have POS := Lib.hid (show 0 < strg n P f t from strg_pos (fun a b => (PB.out a b).1) hf HNE.out hsp)
        obtain ⟨L, hL⟩ : ∃ z, p.length = z := ⟨_, rfl⟩
        rw [hL]
        rw [hL] at II
        have HL := Lib.hid hL
        have l64 := II.out.short
        clear hsp hI hL b5
        go_wp2_with fail
        exact bodyPost_ret (v := .tuple #[.slice (some A) L c, .bool true]) (by simp [results, Try.results24, go_sem]) rfl (by rw [HPP.out]; exact ⟨.inr ⟨HNE.out, POS.out, p, A, c, SPP.out, by rw [HL.out], by rw [HL.out]; exact II.out⟩, BB5.out⟩)
      · have BB5 := Lib.hid (bel_trans BB4.out b5)
        have NOP := Lib.hid (show ¬ (f ≠ t ∧ 0 < strg n P f t) from fun x => by
          obtain ⟨p, hp⟩ := reach (B := 432000) (fun a b => (PB.out a b).2) (by omega) hf ht x.1 x.2
          exact hno p hp)
        clear hno b5
        go_wp2_with fail
        exact bodyPost_ret (v := .tuple #[.slice none 0 0, .bool false]) (by simp [results, Try.results24, go_sem]) rfl (by rw [HPP.out]; exact ⟨.inl ⟨NOP.out, rfl⟩, BB5.out⟩)
end Go.Proofs.Ytikcbconfinibaa
