/- The order of Phragmen: its state, and how it lies in memory. -/
import Derived.Test.YtiodbjfchfmlcaaFrs
import Derived.Test.YtiodbjfchfmlcaaStepApp
namespace Go.Proofs.Ytiodbjfchfmlcaa
set_option linter.unusedVariables false
set_option linter.unusedSimpArgs false
open Go.RowKit Go.Deep
theorem nodup_bd' : ∀ (n : Nat) (l : List Nat), l.Nodup → (∀ x ∈ l, x < n) → l.length ≤ n
  | 0, l, _, h => by
    cases l with
    | nil => exact Nat.le_refl _
    | cons a l => exact absurd (h a (List.mem_cons_self ..)) (by omega)
  | n + 1, l, nd, h => by
    have h1 := nodup_bd' n (l.erase n) (nd.erase n) (fun x hx => by
      have h2 := h x (List.mem_of_mem_erase hx)
      have h3 : x ≠ n := fun e => by subst e; exact (List.Nodup.mem_erase_iff nd).1 hx |>.1 rfl
      omega)
    have h4 := List.length_erase (a := n) (l := l)
    split at h4 <;> omega
theorem nodup_snoc' {vis : List Nat} {o : Nat} (h : vis.Nodup) (ho : o ∉ vis) : (vis ++ [o]).Nodup := by
  rw [List.nodup_append]
  exact ⟨h, by simp, fun a ha b hb e => by rw [List.mem_singleton] at hb; subst hb; subst e; exact ho ha⟩
def costR (cs : List Int) (R : List (Nat × Int)) : Int := (R.map fun p => cs.getD p.1 0).sum
theorem costR_scl (cs : List Int) (k : Int) (R : List (Nat × Int)) : costR cs (scl k R) = costR cs R := by
  unfold costR scl
  rw [List.map_map]
  rfl
theorem scl_len (k : Int) (R : List (Nat × Int)) : (scl k R).length = R.length := by simp [scl]
/-- The state of the order of Phragmen. -/
structure PhS (e : El) (D : Int) (R : List (Nat × Int)) (dn : List Nat) (lf : Int) : Prop where
  d1 : 1 ≤ D
  d2 : D ≤ 6 ^ R.length
  ok : PhOk e.cs e.ap D R
  late : Late e.cs e.ap D dn R
  nd : dn.Nodup
  dl : ∀ x ∈ dn, x < e.cs.length
  rl : R.length ≤ dn.length
  hlf : lf = e.mon - costR e.cs R
  l0 : 0 ≤ lf
theorem EOk.costx {e : El} (h : EOk e) {x : Nat} (hx : x < e.cs.length) : 1 ≤ e.cs.getD x 0 ∧ e.cs.getD x 0 ≤ 60 := by
  rw [List.getD_eq_getElem?_getD, List.getElem?_eq_getElem hx]
  exact h.cost _ (List.getElem_mem hx)
theorem PhS.start {e : El} (ok : EOk e) : PhS e 1 [] [] e.mon :=
  ⟨Int.le_refl _, by simp, .nil, late_nil (Int.le_refl _) ok.cost, List.nodup_nil, by simp, Nat.le_refl _, by simp [costR], ok.mon.1⟩
theorem PhS.dn6 {e : El} (ok : EOk e) {D lf : Int} {R : List (Nat × Int)} {dn : List Nat} (h : PhS e D R dn lf) : dn.length ≤ e.cs.length := nodup_bd' _ _ h.nd h.dl
theorem six_pow {k n : Nat} (h : k ≤ n) : (6 : Int) ^ k ≤ 6 ^ n := by
  obtain ⟨d, rfl⟩ := Nat.exists_eq_add_of_le h
  rw [Int.pow_add]
  have h1 : ∀ j : Nat, (1 : Int) ≤ 6 ^ j := by
    intro j
    induction j with
    | zero => simp
    | succ j ih => rw [Int.pow_succ]; omega
  have := Int.mul_le_mul_of_nonneg_left (h1 d) (show (0 : Int) ≤ 6 ^ k by have := h1 k; omega)
  rw [Int.mul_one] at this
  exact this
theorem PhS.db {e : El} (ok : EOk e) {D lf : Int} {R : List (Nat × Int)} {dn : List Nat} (h : PhS e D R dn lf) : D ≤ 46656 := by
  have h1 := h.dn6 ok
  have h2 := ok.cs1
  have h3 := h.rl
  have := six_pow (show R.length ≤ 6 by omega)
  have := h.d2
  have e6 : (6 : Int) ^ 6 = 46656 := by decide
  omega
theorem PhS.snc {e : El} (ok : EOk e) {D lf : Int} {R : List (Nat × Int)} {dn : List Nat} (h : PhS e D R dn lf) (v : Nat) : 0 ≤ snc e.ap R v ∧ snc e.ap R v ≤ 360 * D := by
  have h1 := h.dn6 ok
  have h2 := ok.cs1
  have h3 := h.rl
  have b := h.ok.bound h.d1 ok.cost
  have s := h.ok.snc v
  have : 60 * (R.length : Int) * D ≤ 360 * D := Int.mul_le_mul_of_nonneg_right (by omega) (by have := h.d1; omega)
  omega
theorem sumV_bd {f : Nat → Int} {b : Int} : ∀ (l : List Nat), (∀ v, 0 ≤ f v ∧ f v ≤ b) → 0 ≤ sumV f l ∧ sumV f l ≤ b * l.length
  | [], _ => by simp [sumV]
  | a :: l, h => by
    have := sumV_bd l h
    have := h a
    rw [sumV_cons, List.length_cons]
    push_cast
    rw [Int.mul_add]
    omega
/-- Everything that is summed is small. -/
theorem PhS.part {e : El} (ok : EOk e) {D lf : Int} {R : List (Nat × Int)} {dn : List Nat} (h : PhS e D R dn lf) {x : Nat} (hx : x < e.cs.length) (l : List Nat) (hl : l.length ≤ 6) :
    0 ≤ e.cs.getD x 0 * D + sumV (Ytiodbjfchfmlcaa.snc e.ap R) l ∧ e.cs.getD x 0 * D + sumV (Ytiodbjfchfmlcaa.snc e.ap R) l ≤ 2220 * D := by
  have c := ok.costx hx
  have d := h.d1
  have s := sumV_bd (f := Ytiodbjfchfmlcaa.snc e.ap R) (b := 360 * D) l (fun v => h.snc ok v)
  have c0 := Int.mul_nonneg (show 0 ≤ e.cs.getD x 0 by omega) (show 0 ≤ D by omega)
  have c1 := Int.mul_le_mul_of_nonneg_right c.2 (show 0 ≤ D by omega)
  have l1 := Int.mul_le_mul_of_nonneg_left (show (l.length : Int) ≤ 6 by omega) (show 0 ≤ 360 * D by omega)
  omega
theorem PhS.sm {e : El} (ok : EOk e) {D lf : Int} {R : List (Nat × Int)} {dn : List Nat} (h : PhS e D R dn lf) {t : Int} (h0 : 0 ≤ t) (h1 : t ≤ 2220 * D) : Sm t D := by
  have d := h.d1
  have b := h.db ok
  exact ⟨d, by omega, by omega, by omega⟩
theorem PhS.smO {e : El} (ok : EOk e) {D lf : Int} {R : List (Nat × Int)} {dn : List Nat} (h : PhS e D R dn lf) {t : Int} (h0 : 0 ≤ t) (h1 : t ≤ 2220 * D) {s : Int} (s1 : 1 ≤ s) (s6 : s ≤ 6) : Sm t (D * s) := by
  have d := h.d1
  have b := h.db ok
  have a1 := Int.mul_pos (a := D) (b := s) (by omega) (by omega)
  have a2 := Int.mul_le_mul_of_nonneg_left s6 (show 0 ≤ D by omega)
  exact ⟨by omega, by omega, by omega, by omega⟩
theorem sz6 {e : El} (ok : EOk e) (x : Nat) : 0 ≤ sz e.ap x ∧ sz e.ap x ≤ 6 := by
  have := supN_len e.ap (x : Int) e.ap.length
  have := ok.ap1
  unfold sz
  omega
theorem PhS.atN {e : El} (ok : EOk e) {D lf : Int} {R : List (Nat × Int)} {dn : List Nat} (h : PhS e D R dn lf) {x : Nat} (hx : x < e.cs.length) : 0 ≤ atN e.cs e.ap D R x ∧ Ytiodbjfchfmlcaa.atN e.cs e.ap D R x ≤ 2220 * D :=
  h.part ok hx _ (by have := sz6 ok x; unfold sz at this; omega)
theorem PhS.skip {e : El} {D lf : Int} {R : List (Nat × Int)} {dn : List Nat} (h : PhS e D R dn lf) {b : Nat} (hb : b < e.cs.length) (hn : b ∉ dn) : PhS e D R (dn ++ [b]) lf :=
  ⟨h.d1, h.d2, h.ok, ph_skip b h.late, nodup_snoc' h.nd hn, fun x hx => by
    rcases List.mem_append.1 hx with hx | hx
    · exact h.dl x hx
    · rw [List.mem_singleton] at hx; omega, by have := h.rl; simp; omega, h.hlf, h.l0⟩
theorem PhS.buy {e : El} (ok : EOk e) {D lf : Int} {R : List (Nat × Int)} {dn : List Nat} (h : PhS e D R dn lf) {b : Nat} (hb : Least e.cs e.ap D dn R e.cs.length b) (hc : e.cs.getD b 0 ≤ lf) :
    PhS e (D * sz e.ap b) ((b, Ytiodbjfchfmlcaa.atN e.cs e.ap D R b) :: scl (sz e.ap b) R) (dn ++ [b]) (lf - e.cs.getD b 0) := by
  obtain ⟨p1, p2⟩ := ph_buy h.d1 h.ok h.late hb
  have s := sz6 ok b
  have d := h.d1
  have s1 := hb.2.2.1
  refine ⟨?_, ?_, p1, p2, nodup_snoc' h.nd hb.2.1, fun x hx => ?_, ?_, ?_, by omega⟩
  · have := Int.mul_pos (a := D) (b := sz e.ap b) (by omega) (by omega)
    omega
  · rw [List.length_cons, scl_len, Int.pow_succ]
    have a1 := Int.mul_le_mul_of_nonneg_left s.2 (show 0 ≤ D by omega)
    have := h.d2
    omega
  · rcases List.mem_append.1 hx with hx | hx
    · exact h.dl x hx
    · rw [List.mem_singleton] at hx; rw [hx]; exact hb.1
  · have := h.rl; simp [scl_len]; omega
  · have := h.hlf
    have e1 : costR e.cs ((b, Ytiodbjfchfmlcaa.atN e.cs e.ap D R b) :: scl (sz e.ap b) R) = e.cs.getD b 0 + costR e.cs R := by
      rw [← costR_scl e.cs (sz e.ap b) R]
      simp [costR]
    rw [e1]
    omega
/-- The best of the first k projects. -/
def BestP (cs : List Int) (ap : List (List Int)) (D : Int) (dn : List Nat) (R : List (Nat × Int)) (k : Nat) : Option Nat → Prop
  | none => ∀ x, x < k → x ∈ dn ∨ sz ap x = 0
  | some b => Least cs ap D dn R k b
def bstI : Option Nat → Int
  | none => -1
  | some b => b
theorem BestP.skip {cs : List Int} {ap : List (List Int)} {D : Int} {dn : List Nat} {R : List (Nat × Int)} {k : Nat} {b : Option Nat} (h : BestP cs ap D dn R k b) (hk : k ∈ dn ∨ sz ap k = 0) : BestP cs ap D dn R (k + 1) b := by
  cases b with
  | none =>
    intro x hx
    rcases Nat.lt_or_ge x k with h1 | h1
    · exact h x h1
    · obtain rfl : x = k := by omega
      exact hk
  | some b =>
    obtain ⟨h1, h2, h3, h4⟩ := h
    refine ⟨by omega, h2, h3, fun x hx hn hs => ?_⟩
    rcases Nat.lt_or_ge x k with h5 | h5
    · exact h4 x h5 hn hs
    · obtain rfl : x = k := by omega
      rcases hk with hk | hk
      · exact absurd hk hn
      · omega
theorem BestP.first {cs : List Int} {ap : List (List Int)} {D : Int} {dn : List Nat} {R : List (Nat × Int)} {k : Nat} (h : BestP cs ap D dn R k none) (hk : k ∉ dn) (hs : 0 < sz ap k) : BestP cs ap D dn R (k + 1) (some k) := by
  refine ⟨by omega, hk, hs, fun x hx hn hs' => ?_⟩
  rcases Nat.lt_or_ge x k with h5 | h5
  · rcases h x h5 with h6 | h6
    · exact absurd h6 hn
    · omega
  · obtain rfl : x = k := by omega
    exact Int.le_refl _
theorem BestP.less {cs : List Int} {ap : List (List Int)} {D : Int} {dn : List Nat} {R : List (Nat × Int)} {k b : Nat} (h : BestP cs ap D dn R k (some b)) (hk : k ∉ dn) (hs : 0 < sz ap k) (hl : atN cs ap D R k * sz ap b < atN cs ap D R b * sz ap k) : BestP cs ap D dn R (k + 1) (some k) := by
  obtain ⟨h1, h2, h3, h4⟩ := h
  refine ⟨by omega, hk, hs, fun x hx hn hs' => ?_⟩
  rcases Nat.lt_or_ge x k with h5 | h5
  · have a1 := h4 x h5 hn hs'
    have s1 := Int.mul_lt_mul_of_pos_right hl hs'
    have s2 := Int.mul_le_mul_of_nonneg_right a1 (show 0 ≤ sz ap k by omega)
    have e1 : atN cs ap D R k * sz ap b * sz ap x = atN cs ap D R k * sz ap x * sz ap b := by ac_rfl
    have e2 : atN cs ap D R b * sz ap k * sz ap x = atN cs ap D R b * sz ap x * sz ap k := by ac_rfl
    have e3 : atN cs ap D R x * sz ap b * sz ap k = atN cs ap D R x * sz ap k * sz ap b := by ac_rfl
    have s3 : atN cs ap D R k * sz ap x * sz ap b < atN cs ap D R x * sz ap k * sz ap b := by omega
    have := Int.lt_of_mul_lt_mul_right s3 (show 0 ≤ sz ap b by omega)
    omega
  · obtain rfl : x = k := by omega
    exact Int.le_refl _
theorem BestP.more {cs : List Int} {ap : List (List Int)} {D : Int} {dn : List Nat} {R : List (Nat × Int)} {k b : Nat} (h : BestP cs ap D dn R k (some b)) (hl : ¬ atN cs ap D R k * sz ap b < atN cs ap D R b * sz ap k) : BestP cs ap D dn R (k + 1) (some b) := by
  obtain ⟨h1, h2, h3, h4⟩ := h
  refine ⟨by omega, h2, h3, fun x hx hn hs' => ?_⟩
  rcases Nat.lt_or_ge x k with h5 | h5
  · exact h4 x h5 hn hs'
  · obtain rfl : x = k := by omega
    omega
/-- The state in memory. -/
structure PhV (base gs cS n : Nat) (D : Int) (sl : List Int) (R : List (Nat × Int)) (dn : List Nat) (O : Option Addr) (oc : Nat) (T : Option Addr) (tc : Nat) (N : Option Addr) (nc : Nat) (w : World) : Prop where
  sp : FrsO w base (some ⟨gs, 0, none⟩) n cS D sl
  out : OwnI w base O R.length oc (zns (R.reverse.map Prod.fst))
  tm : FrsO w base T R.length tc D (R.reverse.map Prod.snd)
  dw : OwnI w base N dn.length nc (zns dn)
  a1 : Apart (.slice O R.length oc) (.slice N dn.length nc)
  a2 : Apart (.slice T R.length tc) (.slice (some ⟨gs, 0, none⟩) n cS)
def slR (ap : List (List Int)) (n : Nat) (R : List (Nat × Int)) : List Int := (List.range n).map (snc ap R)
abbrev PhW (base gs cS n : Nat) (ap : List (List Int)) (D : Int) (R : List (Nat × Int)) (dn : List Nat) (O : Option Addr) (oc : Nat) (T : Option Addr) (tc : Nat) (N : Option Addr) (nc : Nat) (w : World) : Prop := PhV base gs cS n D (slR ap n R) R dn O oc T tc N nc w
theorem ne_far {v : Value} {G gl : Nat} (h : ∀ g, v.ownBlock = some g → g < G) (hl : G ≤ gl) : v.ownBlock = none ∨ v.ownBlock ≠ some gl := by
  cases e : v.ownBlock with
  | none => exact .inl rfl
  | some g => exact .inr fun e2 => by injection e2 with e2; have := h g e; omega
theorem FrsO.kept {w w' : World} {base n c : Nat} {A : Option Addr} {D : Int} {l : List Int} {row : Option Nat} (h : FrsO w base A n c D l) (hg : w.grownBy w' row) (hne : (Value.slice A n c).ownBlock = none ∨ (Value.slice A n c).ownBlock ≠ row) : FrsO w' base A n c D l := OwnR.kept h hg hne
theorem FrsO.below {w w' : World} {base n c : Nat} {A : Option Addr} {D : Int} {l : List Int} (h : FrsO w base A n c D l) (hb : Below w.heap.size w w') : FrsO w' base A n c D l := OwnR.below h hb
theorem FrsO.block {w : World} {base n c : Nat} {A : Option Addr} {D : Int} {l : List Int} (h : FrsO w base A n c D l) : ∀ g, (Value.slice A n c).ownBlock = some g → base ≤ g ∧ g < w.heap.size := OwnR.block h
section
variable {base gs cS n gl oc tc nc : Nat} {D : Int} {sl : List Int} {R : List (Nat × Int)} {dn : List Nat} {O T N : Option Addr} {w w' : World}
theorem PhV.far (h : PhV base gs cS n D sl R dn O oc T tc N nc w) (hg : w.grownBy w' (some gl)) (hl : w.heap.size ≤ gl) : PhV base gs cS n D sl R dn O oc T tc N nc w' :=
  ⟨h.sp.kept hg (ne_far (fun g e => (h.sp.block g e).2) hl), h.out.kept hg (ne_far (fun g e => (h.out.block g e).2) hl), h.tm.kept hg (ne_far (fun g e => (h.tm.block g e).2) hl), h.dw.kept hg (ne_far (fun g e => (h.dw.block g e).2) hl), h.a1, h.a2⟩
theorem PhV.below (h : PhV base gs cS n D sl R dn O oc T tc N nc w) (hb : Below w.heap.size w w') : PhV base gs cS n D sl R dn O oc T tc N nc w' :=
  ⟨h.sp.below hb, h.out.below hb, h.tm.below hb, h.dw.below hb, h.a1, h.a2⟩
/-- One more project is done with. -/
theorem PhV.addDone (h : PhV base gs cS n D sl R dn O oc T tc N nc w) {N' : Option Addr} {nc' b : Nat} (p1 : OwnI w' base N' (dn.length + 1) nc' (zns dn ++ [(b : Int)])) (hg : w.grownBy w' (Value.slice N dn.length nc).ownBlock)
    (p3 : NewBlk w (.slice N dn.length nc) (.slice N' (dn.length + 1) nc')) : PhV base gs cS n D sl R (dn ++ [b]) O oc T tc N' nc' w' := by
  refine ⟨h.sp.kept hg (own_ne h.sp.1 h.dw.1 (by decide)), h.out.kept hg h.a1, h.tm.kept hg (own_ne h.tm.1 h.dw.1 (by decide)), ?_, ?_, h.a2⟩
  · rw [zns_snoc, List.length_append]; exact p1
  · rw [List.length_append]
    exact (apart_step h.a1.symm p3 (fun g e => (h.out.block g e).2)).symm
/-- Over a greater denominator. -/
theorem PhV.scale {ap : List (List Int)} {k : Int} (h : PhV base gs cS n D (slR ap n R) R dn O oc T tc N nc w) (hD : 1 ≤ D) (hk : 1 ≤ k) : PhV base gs cS n (D * k) (slR ap n (scl k R)) (scl k R) dn O oc T tc N nc w := by
  have e1 : (slR ap n R).map (· * k) = slR ap n (scl k R) := by
    unfold slR
    rw [List.map_map]
    exact List.map_congr_left fun v _ => (snc_scl ap k R v).symm
  have e2 : (scl k R).reverse.map Prod.fst = R.reverse.map Prod.fst := by
    unfold scl
    rw [← List.map_reverse, List.map_map]
    rfl
  have e3 : (R.reverse.map Prod.snd).map (· * k) = (scl k R).reverse.map Prod.snd := by
    unfold scl
    rw [← List.map_reverse, List.map_map, List.map_map]
    rfl
  refine ⟨?_, ?_, ?_, h.dw, ?_, ?_⟩
  · rw [← e1]; exact h.sp.scale hD hk
  · rw [scl_len, e2]; exact h.out
  · rw [scl_len, ← e3]; exact h.tm.scale hD hk
  · rw [scl_len]; exact h.a1
  · rw [scl_len]; exact h.a2
/-- A project is bought: the first list. -/
theorem PhV.out1 (h : PhV base gs cS n D sl R dn O oc T tc N nc w) {O' : Option Addr} {oc' b : Nat} (p1 : OwnI w' base O' (R.length + 1) oc' (zns (R.reverse.map Prod.fst) ++ [(b : Int)])) (hg : w.grownBy w' (Value.slice O R.length oc).ownBlock) :
    FrsO w' base (some ⟨gs, 0, none⟩) n cS D sl ∧ FrsO w' base T R.length tc D (R.reverse.map Prod.snd) ∧ OwnI w' base N dn.length nc (zns dn) ∧ Apart (.slice T R.length tc) (.slice (some ⟨gs, 0, none⟩) n cS) :=
  ⟨h.sp.kept hg (own_ne h.sp.1 h.out.1 (by decide)), h.tm.kept hg (own_ne h.tm.1 h.out.1 (by decide)), h.dw.kept hg h.a1.symm, h.a2⟩
/-- A project is bought, at a time: the first list, behind it the second one. -/
theorem PhV.buy (h : PhV base gs cS n D sl R dn O oc T tc N nc w) {w2 : World} {O' T' : Option Addr} {oc' tc' b : Nat} {t : Int} (p1 : OwnI w' base O' (R.length + 1) oc' (zns (R.reverse.map Prod.fst) ++ [(b : Int)])) (hg : w.grownBy w' (Value.slice O R.length oc).ownBlock)
    (p3 : NewBlk w (.slice O R.length oc) (.slice O' (R.length + 1) oc')) (hb : Below w'.heap.size w' w2) {w3 : World}
    (q1 : FrsO w3 base T' (R.length + 1) tc' D (R.reverse.map Prod.snd ++ [t])) (hg2 : w2.grownBy w3 (Value.slice T R.length tc).ownBlock) (q3 : NewBlk w2 (.slice T R.length tc) (.slice T' (R.length + 1) tc')) :
    PhV base gs cS n D sl ((b, t) :: R) dn O' oc' T' tc' N nc w3 := by
  obtain ⟨s1, s2, s3, s4⟩ := h.out1 p1 hg
  have s1 := s1.below hb
  have s2 := s2.below hb
  have s3 := s3.below hb
  have p1' := p1.below hb
  have hsz := hg.size
  refine ⟨s1.kept hg2 s4.symm, ?_, ?_, s3.kept hg2 (own_ne s3.1 s2.1 (by decide)), ?_, ?_⟩
  · rw [List.reverse_cons, List.map_append, List.length_cons]
    have := p1'.kept hg2 (own_ne p1'.1 s2.1 (by decide))
    rw [← zns_snoc] at this
    exact this
  · rw [List.reverse_cons, List.map_append, List.length_cons]
    exact q1
  · exact apart_step h.a1 p3 (fun g e => (h.dw.block g e).2)
  · refine apart_step s4 q3 (fun g e => ?_)
    have := (s1.block g e).2
    exact this
end
/-- append of one fraction at a step of a region that draws its order. -/
theorem step_app_fr {ops : Array Oper} {o : Oper} {a : Act} {K : Act → World → Prop} {Q : Exit → Act → World → Prop} {E : Prop} (w : World) (hgd : o.guard = none) (s x : Operand)
    (ho : o.op = .call { callee := .builtin .append, args := #[s, x], argTypes := #[39, 39] }) (base : Nat)
    (A : Option Addr) (n c : Nat) (D : Int) (l : List Int) (hs : a.eval s = .slice A n c) (hown : FrsO w base A n c D l) (t N M : Int) (hN : redN t D = N) (hM : redD t D = M)
    (g0 : Nat) (hx : a.eval x = .slice (some ⟨g0, 0, none⟩) 1 1) (hc : w.cell? ⟨g0, 0, none⟩ = some (.int .i64 N)) (hc1 : w.cell? ⟨g0, 1, none⟩ = some (.int .i64 M)) (hn : n ≤ 1048576) (hbase : base ≤ w.heap.size)
    (h : ∀ A' c' w1, FrsO w1 base A' (n + 1) c' D (l ++ [t]) → w.grownBy w1 (Value.slice A n c).ownBlock → NewBlk w (.slice A n c) (.slice A' (n + 1) c') → K (a.put o.dst (.slice A' (n + 1) c')) w1) :
    if Region.wanted o (yielded ops a.tmps) = true then Oper.wp Try.prog o a w K Q else E := by
  subst hN
  subst hM
  obtain ⟨i0, hi, hz0, hz1, hz2⟩ := info_parts info_fr
  refine step_append_lies w hgd s x _ ho base _ i0 _ 2 16 Try.underlying39 hi hz0 hz1 hz2 rfl (by decide) _ n ((l.map (frv D)).flatten) hs hown.1 ⟨g0, 0, none⟩ 1 1 (frv D t) hx rfl ?_ (by intro u hu; simp [frv] at hu; rcases hu with rfl | rfl <;> rfl) (by omega) (by unfold maxLen; omega) (by omega) hbase w.heap.size rfl ?_
  · intro j u hj
    match j, hj with
    | 0, hj => simp [frv] at hj; subst hj; rw [Addr.add_lit]; exact hc
    | 1, hj => simp [frv] at hj; subst hj; rw [Addr.add_lit]; exact hc1
    | j + 2, hj => simp [frv] at hj
  · intro g cap w' h2 h3 h4 h5
    refine h _ _ w' ⟨?_, ?_, ?_⟩ h3 ?_
    · rw [List.map_append, List.flatten_append]; simpa using h2
    · rw [List.map_append, List.length_append, hown.2.1]; rfl
    · intro r hr
      obtain ⟨z, _, rfl⟩ := List.mem_map.1 hr
      rfl
    · rcases h4 with e | e
      · exact .inl e.symm
      · exact .inr ⟨g, rfl, by omega⟩
section
variable {base gs cS n gl oc tc nc : Nat} {D : Int} {sl : List Int} {R : List (Nat × Int)} {dn : List Nat} {O T N : Option Addr} {w w' : World}
/-- The purchase, over a greater denominator. -/
theorem PhV.buyS {ap : List (List Int)} {k : Int} (h : PhV base gs cS n D (slR ap n R) R dn O oc T tc N nc w) (hD : 1 ≤ D) (hk : 1 ≤ k) {w2 : World} {O' T' : Option Addr} {oc' tc' b : Nat} {t : Int} (p1 : OwnI w' base O' (R.length + 1) oc' (zns (R.reverse.map Prod.fst) ++ [(b : Int)])) (hg : w.grownBy w' (Value.slice O R.length oc).ownBlock)
    (p3 : NewBlk w (.slice O R.length oc) (.slice O' (R.length + 1) oc')) (hb : Below w'.heap.size w' w2) {w3 : World}
    (q1 : FrsO w3 base T' (R.length + 1) tc' (D * k) ((scl k R).reverse.map Prod.snd ++ [t])) (hg2 : w2.grownBy w3 (Value.slice T R.length tc).ownBlock) (q3 : NewBlk w2 (.slice T R.length tc) (.slice T' (R.length + 1) tc')) :
    PhV base gs cS n (D * k) (slR ap n (scl k R)) ((b, t) :: scl k R) dn O' oc' T' tc' N nc w3 := by
  have e2 : (scl k R).reverse.map Prod.fst = R.reverse.map Prod.fst := by
    unfold scl
    rw [← List.map_reverse, List.map_map]
    rfl
  rw [← scl_len k R] at p1 hg p3 q1 hg2 q3
  rw [← e2] at p1
  exact (h.scale hD hk).buy p1 hg p3 hb q1 hg2 q3
/-- The times over a greater denominator, for an append. -/
theorem PhV.tmS {ap : List (List Int)} {k : Int} (h : PhV base gs cS n D (slR ap n R) R dn O oc T tc N nc w) (hD : 1 ≤ D) (hk : 1 ≤ k) : FrsO w base T R.length tc (D * k) ((scl k R).reverse.map Prod.snd) := by
  have := (h.scale hD hk).tm
  rwa [scl_len] at this
theorem PhV.put (h : PhV base gs cS n D sl R dn O oc T tc N nc w) {j : Nat} {a t : Int} (ha : sl[j]? = some a) :
    PhV base gs cS n D (sl.set j t) R dn O oc T tc N nc ((w.setCell ⟨gs, j * 2, none⟩ (.int .i64 (redN t D))).setCell ⟨gs, j * 2 + 1, none⟩ (.int .i64 (redD t D))) ∧
      w.grownBy ((w.setCell ⟨gs, j * 2, none⟩ (.int .i64 (redN t D))).setCell ⟨gs, j * 2 + 1, none⟩ (.int .i64 (redD t D))) (some gs) := by
  obtain ⟨p, hg⟩ := h.sp.put (t := t) ha
  exact ⟨⟨p, h.out.kept hg (own_ne h.out.1 h.sp.1 (by decide)), h.tm.kept hg h.a2, h.dw.kept hg (own_ne h.dw.1 h.sp.1 (by decide)), h.a1, h.a2⟩, hg⟩
theorem PhV.cell (h : PhV base gs cS n D sl R dn O oc T tc N nc w) {j : Nat} {a : Int} (ha : sl[j]? = some a) :
    w.cell? ⟨gs, j * 2, none⟩ = some (.int .i64 (redN a D)) ∧ w.cell? ⟨gs, j * 2 + 1, none⟩ = some (.int .i64 (redD a D)) ∧ (∀ i, w.frozen? ⟨gs, i, none⟩ = false) ∧ base ≤ gs ∧ gs < w.heap.size := by
  obtain ⟨g, e, h1, h2, h3, h4, h5⟩ := h.sp.at ha
  simp only [Option.some.injEq, Addr.mk.injEq, and_true] at e
  subst e
  exact ⟨h3, h4, h5, h1, h2⟩
end
theorem blk_neP {v : Value} {base g : Nat} (h : ∀ x, v.ownBlock = some x → base ≤ x) (hg : g < base) : v.ownBlock = none ∨ v.ownBlock ≠ some g := by
  cases hv : v.ownBlock with
  | none => exact .inl rfl
  | some x => exact .inr (fun e => by injection e with e; have := h x hv; omega)
/-- A voter's time. -/
theorem PhW.at {base gs cS n oc tc nc : Nat} {ap : List (List Int)} {D : Int} {R : List (Nat × Int)} {dn : List Nat} {O T N : Option Addr} {w : World} (h : PhW base gs cS n ap D R dn O oc T tc N nc w) {v : Nat} (hv : v < n) :
    w.cell? ⟨gs, v * 2, none⟩ = some (.int .i64 (redN (snc ap R v) D)) ∧ w.cell? ⟨gs, v * 2 + 1, none⟩ = some (.int .i64 (redD (snc ap R v) D)) ∧ gs < w.heap.size ∧ base ≤ gs := by
  obtain ⟨g, e, h1, h2, h3, h4, _⟩ := h.sp.at (j := v) (a := snc ap R v) (by simp [slR, hv])
  simp only [Option.some.injEq, Addr.mk.injEq, and_true] at e
  subst e
  exact ⟨h3, h4, h2, h1⟩
/-- The times while they are being set. -/
def slI (ap : List (List Int)) (n : Nat) (R : List (Nat × Int)) (t : Int) (l : List Nat) : List Int := (List.range n).map fun v => if l.contains v then t else snc ap R v
theorem slI_nil (ap : List (List Int)) (n : Nat) (R : List (Nat × Int)) (t : Int) : slI ap n R t [] = slR ap n R := rfl
theorem slI_snoc (ap : List (List Int)) (n : Nat) (R : List (Nat × Int)) (t : Int) (l : List Nat) (v : Nat) : (slI ap n R t l).set v t = slI ap n R t (l ++ [v]) := by
  apply List.ext_getElem?
  intro j
  unfold slI
  rw [List.getElem?_set]
  by_cases e : v = j
  · subst e
    by_cases hv : v < n
    · simp [hv]
    · simp [hv]
  · rw [if_neg e]
    by_cases hj : j < n
    · simp [hj]
      by_cases hm : j ∈ l
      · simp [hm]
      · simp [hm, Ne.symm e]
    · simp [hj]
theorem slI_all (ap : List (List Int)) (n : Nat) (R : List (Nat × Int)) (t : Int) (b : Nat) : slI ap n R t (supN ap (b : Int) n) = slR ap n ((b, t) :: R) := by
  unfold slI slR
  refine List.map_congr_left fun v hv => ?_
  have hv := List.mem_range.1 hv
  have e : (supN ap (b : Int) n).contains v = sup1 ap (b : Int) v := by
    rw [Bool.eq_iff_iff, List.contains_iff_mem]
    unfold supN
    rw [List.mem_filter, List.mem_range]
    exact ⟨fun h => h.2, fun h => ⟨hv, h⟩⟩
  rw [e]
  rfl
end Go.Proofs.Ytiodbjfchfmlcaa
