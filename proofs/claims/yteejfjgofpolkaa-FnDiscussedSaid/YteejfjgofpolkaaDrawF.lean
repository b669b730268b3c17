/- A frame that is drawn is valid. -/
import Derived.Test.YteejfjgofpolkaaFrame3
namespace Go.Proofs.Yteejfjgofpolkaa
set_option linter.unusedVariables false
set_option linter.unusedSimpArgs false
set_option maxRecDepth 100000
open Go.RowKit
/-- A variable that holds a frame: a block of its own. -/
def FO (w : World) (g : Nat) (u0 u1 : Value) : Prop := w.ownsRow g 26 2 (.slice (some ⟨g, 0, none⟩) 1 1) 1 [u0, u1]
theorem FO.new (w : World) (u0 u1 : Value) : FO (w.alloc (.cells #[u0, u1] 26)) w.heap.size u0 u1 := by
  have := World.ownsRow_lit (base := w.heap.size) (e := 26) (size := 2) w #[u0, u1] 1 (Nat.le_refl _) (by unfold maxLen; omega) rfl
  unfold FO
  simpa using this
section
variable {w w' : World} {g : Nat} {u0 u1 : Value}
theorem FO.below (h : FO w g u0 u1) (b : Below w.heap.size w w') : FO w' g u0 u1 := World.ownsRow.kept (row := none) h ⟨b.os, b.tape, b.output, b.size, fun k hk _ => b.block k hk⟩ (.inr (by simp [Value.ownBlock]))
theorem FO.cells (h : FO w g u0 u1) : w.cell? ⟨g, 0, none⟩ = some u0 ∧ w.cell? ⟨g, 1, none⟩ = some u1 := by
  have k := World.ownsRow.cells h (g := g) rfl
  have k0 := k 0 u0 rfl
  have k1 := k 1 u1 rfl
  rw [Addr.add_lit, Nat.zero_add] at k0 k1
  exact ⟨k0, k1⟩
theorem FO.free (h : FO w g u0 u1) (j : Nat) : w.frozen? ⟨g, j, none⟩ = false := World.ownsRow.frozenAt h j
theorem FO.lt (h : FO w g u0 u1) : g < w.heap.size := (World.ownsRow.lt h g rfl).2
theorem FO.set0 (h : FO w g u0 u1) (u : Value) : FO (w.setCell ⟨g, 0, none⟩ u) g u u1 ∧ w.grownBy (w.setCell ⟨g, 0, none⟩ u) (some g) := World.ownsRow.stored h 0 u
theorem FO.set1 (h : FO w g u0 u1) (u : Value) : FO (w.setCell ⟨g, 1, none⟩ u) g u0 u ∧ w.grownBy (w.setCell ⟨g, 1, none⟩ u) (some g) := World.ownsRow.stored h 1 u
theorem FO.far (h : FO w g u0 u1) {g2 : Nat} (hg : w.grownBy w' (some g2)) (hne : g ≠ g2) : FO w' g u0 u1 := World.ownsRow.kept h hg (.inr (by simp [Value.ownBlock]; exact hne))
theorem FO.keepM (h : FO w g u0 u1) {base n c : Nat} {A : Option Addr} {vs : List Value} {zss : List (List Int)} (o : OwnM w base A n c vs zss) (hg : w.grownBy w' (Value.slice A n c).ownBlock) : FO w' g u0 u1 := World.ownsRow.kept h hg (own_ne h o.outer (by decide))
theorem FO.keeps (h : FO w g u0 u1) {base n c : Nat} {A : Option Addr} {vs : List Value} {zss : List (List Int)} (o : OwnM w base A n c vs zss) (hg : w.grownBy w' (some g)) : OwnM w' base A n c vs zss :=
  ⟨o.outer.kept hg (own_ne o.outer h (by decide)), o.len, fun j zs e => by obtain ⟨A', c', e1, q⟩ := o.row j zs e; exact ⟨A', c', e1, q.kept hg (own_ne q.1 h (by decide))⟩, o.apart⟩
end
theorem FrOk.snoc {N a b : Nat} {es : List (Nat × Nat)} (h : FrOk N es) (ha : a < N) (hb : b < N) (hl : ∀ p ∈ es, lt2 p (a, b)) : FrOk N (es ++ [(a, b)]) := by
  refine ⟨h.n10, fun p hp => ?_, fun i p q hp hq => ?_⟩
  · rcases List.mem_append.1 hp with hp | hp
    · exact h.inn p hp
    · simp at hp; subst hp; exact ⟨ha, hb⟩
  · by_cases h1 : i + 1 < es.length
    · rw [List.getElem?_append_left h1] at hq
      rw [List.getElem?_append_left (by omega)] at hp
      exact h.lt i p q hp hq
    · have h2 := (List.getElem?_eq_some_iff.1 hq).1
      simp at h2
      have e : i + 1 = es.length := by omega
      rw [List.getElem?_append_right (by omega), e, Nat.sub_self] at hq
      simp at hq
      subst hq
      rw [List.getElem?_append_left (by omega)] at hp
      exact hl p (List.mem_of_getElem? hp)
theorem lt2_next {a b : Nat} {es : List (Nat × Nat)} (h : ∀ x ∈ es, lt2 x (a, b)) : ∀ x ∈ es, lt2 x (a, b + 1) := fun x hx => by
  rcases h x hx with q | ⟨q1, q2⟩
  · exact .inl q
  · exact .inr ⟨q1, Nat.lt_succ_of_lt q2⟩
theorem lt2_snoc {a b : Nat} {es : List (Nat × Nat)} (h : ∀ x ∈ es, lt2 x (a, b)) : ∀ x ∈ es ++ [(a, b)], lt2 x (a, b + 1) := fun x hx => by
  rcases List.mem_append.1 hx with hx | hx
  · exact lt2_next h x hx
  · simp at hx; subst hx; exact .inr ⟨rfl, Nat.lt_succ_self _⟩
theorem lt2_row {a b : Nat} {es : List (Nat × Nat)} (h : ∀ x ∈ es, lt2 x (a, b)) : ∀ x ∈ es, x.1 < a + 1 := fun x hx => by
  rcases h x hx with q | ⟨q1, q2⟩
  · exact Nat.lt_succ_of_lt q
  · exact q1 ▸ Nat.lt_succ_self _
def DrawnF (g : Nat) (A : Option Addr) (n c : Nat) (bs : List Int) (w : World) (e : Ending) (w' : World) : Prop :=
  ∃ (N : Nat) (es : List (Nat × Nat)) (Q : Option Addr) (d : Nat) (vs : List Value), e = .returned (.agg #[.int .i64 N, .slice Q es.length d]) ∧ FrOk N es ∧ OwnM w' w.heap.size Q es.length d vs (es.map erow) ∧ w.grownBy w' (some g)
set_option maxHeartbeats 4000000 in
theorem l08DrawOk_any (g : Nat) (A : Option Addr) (n c : Nat) (bs : List Int) (w : World) (h : Src w g A n c bs 0) :
    Calls Try.prog 56 #[.pointer (some ⟨g, 0, none⟩)] w (DrawnF g A n c bs w) := by
  have hgl := h.lt
  have g0 : w.grownBy (w.alloc (.cells #[.int .i64 0, .slice none 0 0] 26)) (some g) := World.grownBy_alloc _ _ _
  have R0 := Lib.hid (FO.new w (.int .i64 0) (.slice none 0 0))
  have S0 := h.kept (bel_alloc w (.cells #[.int .i64 0, .slice none 0 0] 26))
  have G0 := Lib.hid g0
  have sz0 : (w.alloc (.cells #[.int .i64 0, .slice none 0 0] 26)).heap.size = w.heap.size + 1 := by simp
  go_enter Try.func56, Try.ntmps56
  go_wp2_with fail
  refine (pick_any 8 g A n c bs 0 _ S0 (by omega) (by omega) (by omega)).mono ?_
  rintro e w1 ⟨p, k1, rfl, hp, k10, k11, hs1, hg1⟩
  obtain ⟨p0, p1⟩ := hp.lt (by omega)
  obtain ⟨p, rfl⟩ := Int.eq_ofNat_of_zero_le p0
  have sz1 := hg1.size
  have R1 := Lib.hid (R0.out.far hg1 (by omega))
  have G1 := Lib.hid (grown_trans G0.out hg1)
  have bA := bel_alloc w1 (.cells #[] 28)
  have bB := bel_alloc (w1.alloc (.cells #[] 28)) (.cells #[.int .i64 p, .slice (some ⟨w1.heap.size, 0, none⟩) 0 0] 26)
  have szA : (w1.alloc (.cells #[] 28)).heap.size = w1.heap.size + 1 := by simp
  have M1 := Lib.hid (((ownM_lit w1).below bB).mono (b2 := w.heap.size + 1) (by omega))
  have F1 := Lib.hid (FO.new (w1.alloc (.cells #[] 28)) (.int .i64 p) (.slice (some ⟨w1.heap.size, 0, none⟩) 0 0))
  rw [szA] at F1
  have S1 := (hs1.kept bA).kept bB
  have R2 := Lib.hid ((R1.out.below bA).below bB)
  have G2 := Lib.hid (grown_trans G1.out (grown_trans (World.grownBy_alloc _ (.cells #[] 28) (some g)) (World.grownBy_alloc _ (.cells #[.int .i64 p, .slice (some ⟨w1.heap.size, 0, none⟩) 0 0] 26) (some g))))
  obtain ⟨gf, hgf⟩ : ∃ r, w1.heap.size + 1 = r := ⟨_, rfl⟩
  rw [hgf] at F1
  have hgg : w.heap.size + 1 < gf := by omega
  clear hp bA bB szA sz0
  go_wp2_with fail
  refine (one_any 8 g A n c bs k1 _ S1 (by omega) (by omega) (by omega)).mono ?_
  rintro e w2 ⟨r, k2, rfl, k20, k21, hs2, hg2⟩
  have M2 := Lib.hid (M1.out.kept_out hg2 (fun r hr => by injection hr with hr; omega))
  have F2 := Lib.hid (F1.out.far hg2 (by omega))
  have R3 := Lib.hid (R2.out.far hg2 (by omega))
  have G3 := Lib.hid (grown_trans G2.out hg2)
  clear M1 F1 S1 R2 G2 hg2
  have qc := F2.out.cells.1
  have qf := F2.out.free 0
  cases r
  · have FX := F2
    have MX := M2
    have SX := Lib.hid hs2
    have RX := R3
    have GX := G3
    clear F2 M2 R3 G3 qc qf
    go_wp2_with fail
    refine (pick_any 6 g A n c bs k2 _ (by exact SX.out) (by omega) (by omega) (by omega)).mono ?_
    rintro e w4 ⟨dn, k3, rfl, hd, k30, k31, hs4, hg4⟩
    obtain ⟨d0, d1⟩ := hd.lt (by omega)
    have F4 := Lib.hid (FX.out.far hg4 (by omega))
    have M4 := Lib.hid (MX.out.kept_out hg4 (fun r hr => by injection hr with hr; omega))
    have R4 := Lib.hid (RX.out.far hg4 (by omega))
    have G4 := Lib.hid (grown_trans GX.out hg4)
    have S4 := Lib.hid hs4
    have ew : IntKind.i64.wrap (2 + dn) = 2 + dn := IntWalk.i64_in _ (by omega)
    clear FX MX RX GX SX hg4 hd hs4
    go_wp2_with fail
    go_loopw [5] (fun t wr => ∃ (a : Nat) (Q : Option Addr) (d : Nat) (vs : List Value) (es : List (Nat × Nat)) (k : Nat), a ≤ p ∧ t = .int .i64 a ∧ k ≤ 10 + 22 * a ∧ Src wr g A n c bs k ∧ FO wr gf (.int .i64 (p : Nat)) (.slice Q es.length d) ∧ FO wr w.heap.size (.int .i64 0) (.slice none 0 0) ∧ OwnM wr (w.heap.size + 1) Q es.length d vs (es.map erow) ∧ FrOk p es ∧ (∀ x ∈ es, x.1 < a) ∧ es.length ≤ 11 * a ∧ w.grownBy wr (some g)) (fun t _ => p - (intOf t).toNat)
    case atStart => exact ⟨0, _, _, _, [], k3, by omega, rfl, by omega, S4.out, F4.out, R4.out, M4.out, ⟨by omega, by simp, by simp⟩, by simp, by simp, G4.out⟩
    case round =>
      obtain ⟨a, Q, d, vs, es, k, ha, rfl, hk, hS, hF, hR, hM, hO, hA, hle, hG⟩ := hrel
      have S5 := Lib.hid hS
      have F5 := Lib.hid hF
      have R5 := Lib.hid hR
      have M5 := Lib.hid hM
      have O5 := Lib.hid hO
      have A5 := Lib.hid hA
      have G5 := Lib.hid hG
      have fc0 := F5.out.cells.1
      have fc1 := F5.out.cells.2
      clear hS hF hR hM hO hA hG S4 F4 R4 M4 G4
      by_cases hlt : a < p
      · have hda := decide_eq_true (show (a : Int) < ((p : Nat) : Int) by omega)
        go_wp2_with fail
        clear fc0 fc1
        go_loopw [6] (fun t wr => ∃ (b : Nat) (Q : Option Addr) (d : Nat) (vs : List Value) (es : List (Nat × Nat)) (k : Nat), b ≤ p ∧ t = .int .i64 b ∧ k ≤ 10 + 22 * a + 2 * b ∧ Src wr g A n c bs k ∧ FO wr gf (.int .i64 (p : Nat)) (.slice Q es.length d) ∧ FO wr w.heap.size (.int .i64 0) (.slice none 0 0) ∧ OwnM wr (w.heap.size + 1) Q es.length d vs (es.map erow) ∧ FrOk p es ∧ (∀ x ∈ es, lt2 x (a, b)) ∧ es.length ≤ 11 * a + b ∧ w.grownBy wr (some g)) (fun t _ => p - (intOf t).toNat)
        case atStart => exact ⟨0, Q, d, vs, es, k, by omega, rfl, by omega, S5.out, F5.out, R5.out, M5.out, O5.out, fun x hx => .inl (A5.out x hx), by omega, G5.out⟩
        case round =>
          obtain ⟨b, Q, d, vs, es, k, hb, rfl, hk, hS, hF, hR, hM, hO, hA, hle, hG⟩ := hrel
          have S6 := Lib.hid hS
          have F6 := Lib.hid hF
          have R6 := Lib.hid hR
          have M6 := Lib.hid hM
          have O6 := Lib.hid hO
          have A6 := Lib.hid hA
          have G6 := Lib.hid hG
          have fc0 := F6.out.cells.1
          clear hS hF hR hM hO hA hG S5 F5 R5 M5 O5 A5 G5
          by_cases hbt : b < p
          · have hdb := decide_eq_true (show (b : Int) < ((p : Nat) : Int) by omega)
            by_cases hab : a = b
            · have hqe : ((a : Int) == (b : Int)) = true := by simp [hab]
              clear hab
              go_wp2_with fail
              refine (one_any 9 g A n c bs k _ S6.out (by omega) (by omega) (by omega)).mono ?_
              rintro e w7 ⟨r, k7, rfl, k70, k71, hs7, hg7⟩
              have F7 := Lib.hid (F6.out.far hg7 (by omega))
              have M7 := Lib.hid (M6.out.kept_out hg7 (fun r hr => by injection hr with hr; omega))
              have R7 := Lib.hid (R6.out.far hg7 (by omega))
              have G7 := Lib.hid (grown_trans G6.out hg7)
              have S7 := Lib.hid hs7
              clear hg7 hs7
              cases r
              · go_wp2_with fail
                go_roundw
                case rel => exact ⟨b + 1, Q, d, vs, es, k7, by omega, by go_num, by omega, S7.out, F7.out, R7.out, M7.out, O6.out, lt2_next A6.out, by omega, G7.out⟩
                case measure => simp [intOf]; omega
              · have w70 := World.ownsRow.lt (M7.out.outer)
                have sz7 : w.heap.size + 1 ≤ w7.heap.size := by have := F7.out.lt; omega
                have bl := bel_alloc w7 (.cells #[.int .i64 a, .int .i64 b] 2)
                have ROW0 := (show OwnI (w7.alloc (.cells #[.int .i64 a, .int .i64 b] 2)) w7.heap.size (some ⟨w7.heap.size, 0, none⟩) 2 2 [(a : Int), (b : Int)] from ownI_lits w7 [(a : Int), (b : Int)] (by intro z hz; simp at hz; rcases hz with rfl | rfl <;> exact WalkArith.wf_i64 (by omega)) (by simp))
                have M8 := Lib.hid (M7.out.below bl)
                have F8 := Lib.hid (F7.out.below bl)
                have R8 := Lib.hid (R7.out.below bl)
                have S8 := Lib.hid (S7.out.kept bl)
                have G8 := Lib.hid (grown_trans G7.out (World.grownBy_alloc _ (.cells #[.int .i64 a, .int .i64 b] 2) (some g)))
                have AP := Lib.hid (apart_new (base := 0) (fun v hv g' hg' => (M7.out.blocks v hv g' hg').2) ROW0)
                have ROW := Lib.hid (ROW0.mono (b2 := w.heap.size + 1) sz7)
                have sz8 : w.heap.size + 1 ≤ (w7.alloc (.cells #[.int .i64 a, .int .i64 b] 2)).heap.size := by simp; omega
                have SZ8 := Lib.hid (show (w7.alloc (.cells #[.int .i64 a, .int .i64 b] 2)).heap.size = w7.heap.size + 1 by simp)
                have fc1 := F7.out.cells.2
                have fl7 := F7.out.lt
                have hes : es.length ≤ 1099511627776 := by omega
                clear w70 ROW0 bl fc0
                go_wp2_with (at_builtin; refine app_row (w7.alloc (.cells #[.int .i64 a, .int .i64 b] 2)) rfl _ _ rfl (w.heap.size + 1) Q es.length d vs (es.map erow) rfl M8.out (some ⟨w7.heap.size, 0, none⟩) 2 2 [(a : Int), (b : Int)] ROW.out AP.out (by rw [SZ8.out]; rfl) hes sz8 ?_; intro Q' d' w9 p1 p2; have M9 := Lib.hid p1; have F9 := Lib.hid (F8.out.keepM M8.out p2); have R9 := Lib.hid (R8.out.keepM M8.out p2); have S9 := Lib.hid (S8.out.grown p2 (fun r hr => by have := (M8.out.block r hr).1; omega)); have G9 := Lib.hid (only_new G8.out p2 (fun r hr => by have := (M8.out.block r hr).1; omega)); have fd1 := F9.out.cells.2; have fd2 := F9.out.free 1; clear p1 p2)
                obtain ⟨st1, st2⟩ := F9.out.set1 (.slice Q' (es.length + 1) d')
                have hln : (es ++ [(a, b)]).length = es.length + 1 := by simp
                have FF : Hid (FO (w9.setCell ⟨gf, 1, none⟩ (.slice Q' (es.length + 1) d')) gf (.int .i64 (p : Nat)) (.slice Q' (es ++ [(a, b)]).length d')) := by show FO _ _ _ _; rw [hln]; exact st1
                have MF : Hid (OwnM (w9.setCell ⟨gf, 1, none⟩ (.slice Q' (es.length + 1) d')) (w.heap.size + 1) Q' (es ++ [(a, b)]).length d' (vs ++ [.slice (some ⟨w7.heap.size, 0, none⟩) 2 2]) ((es ++ [(a, b)]).map erow)) := by
                  show OwnM _ _ _ _ _ _ _
                  rw [hln, List.map_append]
                  exact F9.out.keeps M9.out st2
                have RF := Lib.hid (R9.out.far st2 (by omega))
                have SF := Lib.hid (S9.out.grown st2 (fun r hr => by injection hr with hr; omega))
                have GF := Lib.hid (only_new G9.out st2 (fun r hr => by injection hr with hr; omega))
                have OF := Lib.hid (O6.out.snoc hlt hbt A6.out)
                have AF := Lib.hid (lt2_snoc A6.out)
                have HLN := Lib.hid hln
                clear st1 st2 hln
                go_roundw
                case rel => exact ⟨b + 1, Q', d', _, es ++ [(a, b)], k7, by omega, by go_num, by omega, SF.out, FF.out, RF.out, MF.out, OF.out, AF.out, by rw [HLN.out]; omega, GF.out⟩
                case measure => simp [intOf]; omega
            · have hqe : ((a : Int) == (b : Int)) = false := by simp; omega
              clear hab
              go_wp2_with fail
              refine (one_any (2 + dn) g A n c bs k _ S6.out (by omega) (by omega) (by omega)).mono ?_
              rintro e w7 ⟨r, k7, rfl, k70, k71, hs7, hg7⟩
              have F7 := Lib.hid (F6.out.far hg7 (by omega))
              have M7 := Lib.hid (M6.out.kept_out hg7 (fun r hr => by injection hr with hr; omega))
              have R7 := Lib.hid (R6.out.far hg7 (by omega))
              have G7 := Lib.hid (grown_trans G6.out hg7)
              have S7 := Lib.hid hs7
              clear hg7 hs7
              cases r
              · go_wp2_with fail
                go_roundw
                case rel => exact ⟨b + 1, Q, d, vs, es, k7, by omega, by go_num, by omega, S7.out, F7.out, R7.out, M7.out, O6.out, lt2_next A6.out, by omega, G7.out⟩
                case measure => simp [intOf]; omega
              · have w70 := World.ownsRow.lt (M7.out.outer)
                have sz7 : w.heap.size + 1 ≤ w7.heap.size := by have := F7.out.lt; omega
                have bl := bel_alloc w7 (.cells #[.int .i64 a, .int .i64 b] 2)
                have ROW0 := (show OwnI (w7.alloc (.cells #[.int .i64 a, .int .i64 b] 2)) w7.heap.size (some ⟨w7.heap.size, 0, none⟩) 2 2 [(a : Int), (b : Int)] from ownI_lits w7 [(a : Int), (b : Int)] (by intro z hz; simp at hz; rcases hz with rfl | rfl <;> exact WalkArith.wf_i64 (by omega)) (by simp))
                have M8 := Lib.hid (M7.out.below bl)
                have F8 := Lib.hid (F7.out.below bl)
                have R8 := Lib.hid (R7.out.below bl)
                have S8 := Lib.hid (S7.out.kept bl)
                have G8 := Lib.hid (grown_trans G7.out (World.grownBy_alloc _ (.cells #[.int .i64 a, .int .i64 b] 2) (some g)))
                have AP := Lib.hid (apart_new (base := 0) (fun v hv g' hg' => (M7.out.blocks v hv g' hg').2) ROW0)
                have ROW := Lib.hid (ROW0.mono (b2 := w.heap.size + 1) sz7)
                have sz8 : w.heap.size + 1 ≤ (w7.alloc (.cells #[.int .i64 a, .int .i64 b] 2)).heap.size := by simp; omega
                have SZ8 := Lib.hid (show (w7.alloc (.cells #[.int .i64 a, .int .i64 b] 2)).heap.size = w7.heap.size + 1 by simp)
                have fc1 := F7.out.cells.2
                have fl7 := F7.out.lt
                have hes : es.length ≤ 1099511627776 := by omega
                clear w70 ROW0 bl fc0
                go_wp2_with (at_builtin; refine app_row (w7.alloc (.cells #[.int .i64 a, .int .i64 b] 2)) rfl _ _ rfl (w.heap.size + 1) Q es.length d vs (es.map erow) rfl M8.out (some ⟨w7.heap.size, 0, none⟩) 2 2 [(a : Int), (b : Int)] ROW.out AP.out (by rw [SZ8.out]; rfl) hes sz8 ?_; intro Q' d' w9 p1 p2; have M9 := Lib.hid p1; have F9 := Lib.hid (F8.out.keepM M8.out p2); have R9 := Lib.hid (R8.out.keepM M8.out p2); have S9 := Lib.hid (S8.out.grown p2 (fun r hr => by have := (M8.out.block r hr).1; omega)); have G9 := Lib.hid (only_new G8.out p2 (fun r hr => by have := (M8.out.block r hr).1; omega)); have fd1 := F9.out.cells.2; have fd2 := F9.out.free 1; clear p1 p2)
                obtain ⟨st1, st2⟩ := F9.out.set1 (.slice Q' (es.length + 1) d')
                have hln : (es ++ [(a, b)]).length = es.length + 1 := by simp
                have FF : Hid (FO (w9.setCell ⟨gf, 1, none⟩ (.slice Q' (es.length + 1) d')) gf (.int .i64 (p : Nat)) (.slice Q' (es ++ [(a, b)]).length d')) := by show FO _ _ _ _; rw [hln]; exact st1
                have MF : Hid (OwnM (w9.setCell ⟨gf, 1, none⟩ (.slice Q' (es.length + 1) d')) (w.heap.size + 1) Q' (es ++ [(a, b)]).length d' (vs ++ [.slice (some ⟨w7.heap.size, 0, none⟩) 2 2]) ((es ++ [(a, b)]).map erow)) := by
                  show OwnM _ _ _ _ _ _ _
                  rw [hln, List.map_append]
                  exact F9.out.keeps M9.out st2
                have RF := Lib.hid (R9.out.far st2 (by omega))
                have SF := Lib.hid (S9.out.grown st2 (fun r hr => by injection hr with hr; omega))
                have GF := Lib.hid (only_new G9.out st2 (fun r hr => by injection hr with hr; omega))
                have OF := Lib.hid (O6.out.snoc hlt hbt A6.out)
                have AF := Lib.hid (lt2_snoc A6.out)
                have HLN := Lib.hid hln
                clear st1 st2 hln
                go_roundw
                case rel => exact ⟨b + 1, Q', d', _, es ++ [(a, b)], k7, by omega, by go_num, by omega, SF.out, FF.out, RF.out, MF.out, OF.out, AF.out, by rw [HLN.out]; omega, GF.out⟩
                case measure => simp [intOf]; omega
          · have hdb := decide_eq_false (show ¬ (b : Int) < ((p : Nat) : Int) by omega)
            have AN := Lib.hid (lt2_row A6.out)
            go_wp2_with fail
            go_roundw
            case rel => exact ⟨a + 1, Q, d, vs, es, k, by omega, by go_num, by omega, S6.out, F6.out, R6.out, M6.out, O6.out, AN.out, by omega, G6.out⟩
            case measure => simp [intOf]; omega
      · have hda := decide_eq_false (show ¬ (a : Int) < ((p : Nat) : Int) by omega)
        have rc0 := R5.out.cells.1
        have rc1 := R5.out.cells.2
        have rf0 := R5.out.free 0
        have rf1 := R5.out.free 1
        obtain ⟨s1, s2⟩ := R5.out.set0 (.int .i64 (p : Nat))
        obtain ⟨s3, s4⟩ := s1.set1 (.slice Q es.length d)
        have ME := Lib.hid (((s1.keeps (R5.out.keeps M5.out s2) s4)).mono (b2 := w.heap.size) (by omega))
        have GE := Lib.hid (only_new (only_new G5.out s2 (fun r hr => by injection hr with hr; omega)) s4 (fun r hr => by injection hr with hr; omega))
        have re0 := s3.cells.1
        have re1 := s3.cells.2
        have RE0 := Lib.hid re0
        have RE1 := Lib.hid re1
        clear s1 s2 s3 s4 re0 re1
        go_wp2_with fail
        obtain ⟨w9, hw9⟩ : ∃ z, (wr.setCell ⟨w.heap.size, 0, none⟩ (.int .i64 (p : Nat))).setCell ⟨w.heap.size, 1, none⟩ (.slice Q es.length d) = z := ⟨_, rfl⟩
        rw [hw9] at ME GE RE0 RE1 ⊢
        have re0 := RE0.out
        have re1 := RE1.out
        exact bodyPost_ret (v := .agg #[.int .i64 (p : Nat), .slice Q es.length d]) (by simp [results, Try.results56, go_sem, re0, re1]) rfl ⟨p, es, Q, d, vs, rfl, O5.out, ME.out, GE.out⟩
  · have st := F2.out.set0 (.int .i64 10)
    have MX0 := F2.out.keeps M2.out st.2
    have SX0 := hs2.grown st.2 (fun r hr => by injection hr with hr; omega)
    have RX0 := R3.out.far st.2 (by omega)
    have GX0 := only_new G3.out st.2 (fun r hr => by injection hr with hr; omega)
    have FX0 := st.1
    clear st
    go_wp2_with fail
    obtain ⟨wX, hwX⟩ : ∃ z, w2.setCell ⟨gf, 0, none⟩ (.int .i64 10) = z := ⟨_, rfl⟩
    rw [hwX] at MX0 SX0 RX0 GX0 FX0 ⊢
    obtain ⟨N, hN, nN⟩ : ∃ N : Nat, (10 : Int) = (N : Int) ∧ N = 10 := ⟨10, rfl, rfl⟩
    rw [hN] at FX0
    have FX := Lib.hid FX0
    have MX := Lib.hid MX0
    have SX := Lib.hid SX0
    have RX := Lib.hid RX0
    have GX := Lib.hid GX0
    have nN' : N ≤ 10 := by omega
    have nNH := Lib.hid nN
    clear F2 M2 R3 G3 MX0 SX0 RX0 GX0 FX0 hN nN hwX qc qf
    refine (pick_any 6 g A n c bs k2 _ (by exact SX.out) (by omega) (by omega) (by omega)).mono ?_
    rintro e w4 ⟨dn, k3, rfl, hd, k30, k31, hs4, hg4⟩
    obtain ⟨d0, d1⟩ := hd.lt (by omega)
    have F4 := Lib.hid (FX.out.far hg4 (by omega))
    have M4 := Lib.hid (MX.out.kept_out hg4 (fun r hr => by injection hr with hr; omega))
    have R4 := Lib.hid (RX.out.far hg4 (by omega))
    have G4 := Lib.hid (grown_trans GX.out hg4)
    have S4 := Lib.hid hs4
    have ew : IntKind.i64.wrap (2 + dn) = 2 + dn := IntWalk.i64_in _ (by omega)
    clear FX MX RX GX SX hg4 hd hs4
    go_wp2_with fail
    go_loopw [5] (fun t wr => ∃ (a : Nat) (Q : Option Addr) (d : Nat) (vs : List Value) (es : List (Nat × Nat)) (k : Nat), a ≤ N ∧ t = .int .i64 a ∧ k ≤ 10 + 22 * a ∧ Src wr g A n c bs k ∧ FO wr gf (.int .i64 (N : Nat)) (.slice Q es.length d) ∧ FO wr w.heap.size (.int .i64 0) (.slice none 0 0) ∧ OwnM wr (w.heap.size + 1) Q es.length d vs (es.map erow) ∧ FrOk N es ∧ (∀ x ∈ es, x.1 < a) ∧ es.length ≤ 11 * a ∧ w.grownBy wr (some g)) (fun t _ => N - (intOf t).toNat)
    case atStart => exact ⟨0, _, _, _, [], k3, by omega, rfl, by omega, S4.out, F4.out, R4.out, M4.out, ⟨by omega, by simp, by simp⟩, by simp, by simp, G4.out⟩
    case round =>
      obtain ⟨a, Q, d, vs, es, k, ha, rfl, hk, hS, hF, hR, hM, hO, hA, hle, hG⟩ := hrel
      have S5 := Lib.hid hS
      have F5 := Lib.hid hF
      have R5 := Lib.hid hR
      have M5 := Lib.hid hM
      have O5 := Lib.hid hO
      have A5 := Lib.hid hA
      have G5 := Lib.hid hG
      have fc0 := F5.out.cells.1
      have fc1 := F5.out.cells.2
      clear hS hF hR hM hO hA hG S4 F4 R4 M4 G4
      by_cases hlt : a < N
      · have hda := decide_eq_true (show (a : Int) < ((N : Nat) : Int) by omega)
        go_wp2_with fail
        clear fc0 fc1
        go_loopw [6] (fun t wr => ∃ (b : Nat) (Q : Option Addr) (d : Nat) (vs : List Value) (es : List (Nat × Nat)) (k : Nat), b ≤ N ∧ t = .int .i64 b ∧ k ≤ 10 + 22 * a + 2 * b ∧ Src wr g A n c bs k ∧ FO wr gf (.int .i64 (N : Nat)) (.slice Q es.length d) ∧ FO wr w.heap.size (.int .i64 0) (.slice none 0 0) ∧ OwnM wr (w.heap.size + 1) Q es.length d vs (es.map erow) ∧ FrOk N es ∧ (∀ x ∈ es, lt2 x (a, b)) ∧ es.length ≤ 11 * a + b ∧ w.grownBy wr (some g)) (fun t _ => N - (intOf t).toNat)
        case atStart => exact ⟨0, Q, d, vs, es, k, by omega, rfl, by omega, S5.out, F5.out, R5.out, M5.out, O5.out, fun x hx => .inl (A5.out x hx), by omega, G5.out⟩
        case round =>
          obtain ⟨b, Q, d, vs, es, k, hb, rfl, hk, hS, hF, hR, hM, hO, hA, hle, hG⟩ := hrel
          have S6 := Lib.hid hS
          have F6 := Lib.hid hF
          have R6 := Lib.hid hR
          have M6 := Lib.hid hM
          have O6 := Lib.hid hO
          have A6 := Lib.hid hA
          have G6 := Lib.hid hG
          have fc0 := F6.out.cells.1
          clear hS hF hR hM hO hA hG S5 F5 R5 M5 O5 A5 G5
          by_cases hbt : b < N
          · have hdb := decide_eq_true (show (b : Int) < ((N : Nat) : Int) by omega)
            by_cases hab : a = b
            · have hqe : ((a : Int) == (b : Int)) = true := by simp [hab]
              clear hab
              go_wp2_with fail
              refine (one_any 9 g A n c bs k _ S6.out (by omega) (by omega) (by omega)).mono ?_
              rintro e w7 ⟨r, k7, rfl, k70, k71, hs7, hg7⟩
              have F7 := Lib.hid (F6.out.far hg7 (by omega))
              have M7 := Lib.hid (M6.out.kept_out hg7 (fun r hr => by injection hr with hr; omega))
              have R7 := Lib.hid (R6.out.far hg7 (by omega))
              have G7 := Lib.hid (grown_trans G6.out hg7)
              have S7 := Lib.hid hs7
              clear hg7 hs7
              cases r
              · go_wp2_with fail
                go_roundw
                case rel => exact ⟨b + 1, Q, d, vs, es, k7, by omega, by go_num, by omega, S7.out, F7.out, R7.out, M7.out, O6.out, lt2_next A6.out, by omega, G7.out⟩
                case measure => simp [intOf]; omega
              · have w70 := World.ownsRow.lt (M7.out.outer)
                have sz7 : w.heap.size + 1 ≤ w7.heap.size := by have := F7.out.lt; omega
                have bl := bel_alloc w7 (.cells #[.int .i64 a, .int .i64 b] 2)
                have ROW0 := (show OwnI (w7.alloc (.cells #[.int .i64 a, .int .i64 b] 2)) w7.heap.size (some ⟨w7.heap.size, 0, none⟩) 2 2 [(a : Int), (b : Int)] from ownI_lits w7 [(a : Int), (b : Int)] (by intro z hz; simp at hz; rcases hz with rfl | rfl <;> exact WalkArith.wf_i64 (by omega)) (by simp))
                have M8 := Lib.hid (M7.out.below bl)
                have F8 := Lib.hid (F7.out.below bl)
                have R8 := Lib.hid (R7.out.below bl)
                have S8 := Lib.hid (S7.out.kept bl)
                have G8 := Lib.hid (grown_trans G7.out (World.grownBy_alloc _ (.cells #[.int .i64 a, .int .i64 b] 2) (some g)))
                have AP := Lib.hid (apart_new (base := 0) (fun v hv g' hg' => (M7.out.blocks v hv g' hg').2) ROW0)
                have ROW := Lib.hid (ROW0.mono (b2 := w.heap.size + 1) sz7)
                have sz8 : w.heap.size + 1 ≤ (w7.alloc (.cells #[.int .i64 a, .int .i64 b] 2)).heap.size := by simp; omega
                have SZ8 := Lib.hid (show (w7.alloc (.cells #[.int .i64 a, .int .i64 b] 2)).heap.size = w7.heap.size + 1 by simp)
                have fc1 := F7.out.cells.2
                have fl7 := F7.out.lt
                have hes : es.length ≤ 1099511627776 := by omega
                clear w70 ROW0 bl fc0
                go_wp2_with (at_builtin; refine app_row (w7.alloc (.cells #[.int .i64 a, .int .i64 b] 2)) rfl _ _ rfl (w.heap.size + 1) Q es.length d vs (es.map erow) rfl M8.out (some ⟨w7.heap.size, 0, none⟩) 2 2 [(a : Int), (b : Int)] ROW.out AP.out (by rw [SZ8.out]; rfl) hes sz8 ?_; intro Q' d' w9 p1 p2; have M9 := Lib.hid p1; have F9 := Lib.hid (F8.out.keepM M8.out p2); have R9 := Lib.hid (R8.out.keepM M8.out p2); have S9 := Lib.hid (S8.out.grown p2 (fun r hr => by have := (M8.out.block r hr).1; omega)); have G9 := Lib.hid (only_new G8.out p2 (fun r hr => by have := (M8.out.block r hr).1; omega)); have fd1 := F9.out.cells.2; have fd2 := F9.out.free 1; clear p1 p2)
                obtain ⟨st1, st2⟩ := F9.out.set1 (.slice Q' (es.length + 1) d')
                have hln : (es ++ [(a, b)]).length = es.length + 1 := by simp
                have FF : Hid (FO (w9.setCell ⟨gf, 1, none⟩ (.slice Q' (es.length + 1) d')) gf (.int .i64 (N : Nat)) (.slice Q' (es ++ [(a, b)]).length d')) := by show FO _ _ _ _; rw [hln]; exact st1
                have MF : Hid (OwnM (w9.setCell ⟨gf, 1, none⟩ (.slice Q' (es.length + 1) d')) (w.heap.size + 1) Q' (es ++ [(a, b)]).length d' (vs ++ [.slice (some ⟨w7.heap.size, 0, none⟩) 2 2]) ((es ++ [(a, b)]).map erow)) := by
                  show OwnM _ _ _ _ _ _ _
                  rw [hln, List.map_append]
                  exact F9.out.keeps M9.out st2
                have RF := Lib.hid (R9.out.far st2 (by omega))
                have SF := Lib.hid (S9.out.grown st2 (fun r hr => by injection hr with hr; omega))
                have GF := Lib.hid (only_new G9.out st2 (fun r hr => by injection hr with hr; omega))
                have OF := Lib.hid (O6.out.snoc hlt hbt A6.out)
                have AF := Lib.hid (lt2_snoc A6.out)
                have HLN := Lib.hid hln
                clear st1 st2 hln
                go_roundw
                case rel => exact ⟨b + 1, Q', d', _, es ++ [(a, b)], k7, by omega, by go_num, by omega, SF.out, FF.out, RF.out, MF.out, OF.out, AF.out, by rw [HLN.out]; omega, GF.out⟩
                case measure => simp [intOf]; omega
            · have hqe : ((a : Int) == (b : Int)) = false := by simp; omega
              clear hab
              go_wp2_with fail
              refine (one_any (2 + dn) g A n c bs k _ S6.out (by omega) (by omega) (by omega)).mono ?_
              rintro e w7 ⟨r, k7, rfl, k70, k71, hs7, hg7⟩
              have F7 := Lib.hid (F6.out.far hg7 (by omega))
              have M7 := Lib.hid (M6.out.kept_out hg7 (fun r hr => by injection hr with hr; omega))
              have R7 := Lib.hid (R6.out.far hg7 (by omega))
              have G7 := Lib.hid (grown_trans G6.out hg7)
              have S7 := Lib.hid hs7
              clear hg7 hs7
              cases r
              · go_wp2_with fail
                go_roundw
                case rel => exact ⟨b + 1, Q, d, vs, es, k7, by omega, by go_num, by omega, S7.out, F7.out, R7.out, M7.out, O6.out, lt2_next A6.out, by omega, G7.out⟩
                case measure => simp [intOf]; omega
              · have w70 := World.ownsRow.lt (M7.out.outer)
                have sz7 : w.heap.size + 1 ≤ w7.heap.size := by have := F7.out.lt; omega
                have bl := bel_alloc w7 (.cells #[.int .i64 a, .int .i64 b] 2)
                have ROW0 := (show OwnI (w7.alloc (.cells #[.int .i64 a, .int .i64 b] 2)) w7.heap.size (some ⟨w7.heap.size, 0, none⟩) 2 2 [(a : Int), (b : Int)] from ownI_lits w7 [(a : Int), (b : Int)] (by intro z hz; simp at hz; rcases hz with rfl | rfl <;> exact WalkArith.wf_i64 (by omega)) (by simp))
                have M8 := Lib.hid (M7.out.below bl)
                have F8 := Lib.hid (F7.out.below bl)
                have R8 := Lib.hid (R7.out.below bl)
                have S8 := Lib.hid (S7.out.kept bl)
                have G8 := Lib.hid (grown_trans G7.out (World.grownBy_alloc _ (.cells #[.int .i64 a, .int .i64 b] 2) (some g)))
                have AP := Lib.hid (apart_new (base := 0) (fun v hv g' hg' => (M7.out.blocks v hv g' hg').2) ROW0)
                have ROW := Lib.hid (ROW0.mono (b2 := w.heap.size + 1) sz7)
                have sz8 : w.heap.size + 1 ≤ (w7.alloc (.cells #[.int .i64 a, .int .i64 b] 2)).heap.size := by simp; omega
                have SZ8 := Lib.hid (show (w7.alloc (.cells #[.int .i64 a, .int .i64 b] 2)).heap.size = w7.heap.size + 1 by simp)
                have fc1 := F7.out.cells.2
                have fl7 := F7.out.lt
                have hes : es.length ≤ 1099511627776 := by omega
                clear w70 ROW0 bl fc0
                go_wp2_with (at_builtin; refine app_row (w7.alloc (.cells #[.int .i64 a, .int .i64 b] 2)) rfl _ _ rfl (w.heap.size + 1) Q es.length d vs (es.map erow) rfl M8.out (some ⟨w7.heap.size, 0, none⟩) 2 2 [(a : Int), (b : Int)] ROW.out AP.out (by rw [SZ8.out]; rfl) hes sz8 ?_; intro Q' d' w9 p1 p2; have M9 := Lib.hid p1; have F9 := Lib.hid (F8.out.keepM M8.out p2); have R9 := Lib.hid (R8.out.keepM M8.out p2); have S9 := Lib.hid (S8.out.grown p2 (fun r hr => by have := (M8.out.block r hr).1; omega)); have G9 := Lib.hid (only_new G8.out p2 (fun r hr => by have := (M8.out.block r hr).1; omega)); have fd1 := F9.out.cells.2; have fd2 := F9.out.free 1; clear p1 p2)
                obtain ⟨st1, st2⟩ := F9.out.set1 (.slice Q' (es.length + 1) d')
                have hln : (es ++ [(a, b)]).length = es.length + 1 := by simp
                have FF : Hid (FO (w9.setCell ⟨gf, 1, none⟩ (.slice Q' (es.length + 1) d')) gf (.int .i64 (N : Nat)) (.slice Q' (es ++ [(a, b)]).length d')) := by show FO _ _ _ _; rw [hln]; exact st1
                have MF : Hid (OwnM (w9.setCell ⟨gf, 1, none⟩ (.slice Q' (es.length + 1) d')) (w.heap.size + 1) Q' (es ++ [(a, b)]).length d' (vs ++ [.slice (some ⟨w7.heap.size, 0, none⟩) 2 2]) ((es ++ [(a, b)]).map erow)) := by
                  show OwnM _ _ _ _ _ _ _
                  rw [hln, List.map_append]
                  exact F9.out.keeps M9.out st2
                have RF := Lib.hid (R9.out.far st2 (by omega))
                have SF := Lib.hid (S9.out.grown st2 (fun r hr => by injection hr with hr; omega))
                have GF := Lib.hid (only_new G9.out st2 (fun r hr => by injection hr with hr; omega))
                have OF := Lib.hid (O6.out.snoc hlt hbt A6.out)
                have AF := Lib.hid (lt2_snoc A6.out)
                have HLN := Lib.hid hln
                clear st1 st2 hln
                go_roundw
                case rel => exact ⟨b + 1, Q', d', _, es ++ [(a, b)], k7, by omega, by go_num, by omega, SF.out, FF.out, RF.out, MF.out, OF.out, AF.out, by rw [HLN.out]; omega, GF.out⟩
                case measure => simp [intOf]; omega
          · have hdb := decide_eq_false (show ¬ (b : Int) < ((N : Nat) : Int) by omega)
            have AN := Lib.hid (lt2_row A6.out)
            go_wp2_with fail
            go_roundw
            case rel => exact ⟨a + 1, Q, d, vs, es, k, by omega, by go_num, by omega, S6.out, F6.out, R6.out, M6.out, O6.out, AN.out, by omega, G6.out⟩
            case measure => simp [intOf]; omega
      · have hda := decide_eq_false (show ¬ (a : Int) < ((N : Nat) : Int) by omega)
        have rc0 := R5.out.cells.1
        have rc1 := R5.out.cells.2
        have rf0 := R5.out.free 0
        have rf1 := R5.out.free 1
        obtain ⟨s1, s2⟩ := R5.out.set0 (.int .i64 (N : Nat))
        obtain ⟨s3, s4⟩ := s1.set1 (.slice Q es.length d)
        have ME := Lib.hid (((s1.keeps (R5.out.keeps M5.out s2) s4)).mono (b2 := w.heap.size) (by omega))
        have GE := Lib.hid (only_new (only_new G5.out s2 (fun r hr => by injection hr with hr; omega)) s4 (fun r hr => by injection hr with hr; omega))
        have re0 := s3.cells.1
        have re1 := s3.cells.2
        have RE0 := Lib.hid re0
        have RE1 := Lib.hid re1
        clear s1 s2 s3 s4 re0 re1
        go_wp2_with fail
        obtain ⟨w9, hw9⟩ : ∃ z, (wr.setCell ⟨w.heap.size, 0, none⟩ (.int .i64 (N : Nat))).setCell ⟨w.heap.size, 1, none⟩ (.slice Q es.length d) = z := ⟨_, rfl⟩
        rw [hw9] at ME GE RE0 RE1 ⊢
        have re0 := RE0.out
        have re1 := RE1.out
        exact bodyPost_ret (v := .agg #[.int .i64 (N : Nat), .slice Q es.length d]) (by simp [results, Try.results56, go_sem, re0, re1]) rfl ⟨N, es, Q, d, vs, rfl, O5.out, ME.out, GE.out⟩
theorem R8Frame_any (A : Option Addr) (n c : Nat) (bs : List Int) (w : World) (h : Ints .u8 w A n c bs) :
    Calls Try.prog 13 #[.slice A n c] w fun e w' => ∃ (N : Nat) (es : List (Nat × Nat)) (Q : Option Addr) (d : Nat), e = .returned (.agg #[.int .i64 N, .slice Q es.length d]) ∧ FrOk N es ∧ Rws w' Q es.length d (es.map erow) ∧ Below w.heap.size w w' := by
  have b0 := bel_alloc w (.cells #[.int .i64 0, .slice none 0 0] 26)
  have R0 := Lib.hid (FO.new w (.int .i64 0) (.slice none 0 0))
  have B0 := Lib.hid b0
  have sz0 : (w.alloc (.cells #[.int .i64 0, .slice none 0 0] 26)).heap.size = w.heap.size + 1 := by simp
  go_enter Try.func13, Try.ntmps13
  go_wp2_with fail
  refine (l00From_any A n c bs _ (h.below b0)).mono ?_
  rintro e w1 ⟨g, rfl, hg, hs, hb⟩
  have R1 := Lib.hid (R0.out.below hb)
  have B1 := Lib.hid (bel_trans b0 hb)
  have sz1 := hb.size
  clear b0 hb
  go_wp2_with fail
  refine (l08DrawOk_any g A n c bs w1 hs).mono ?_
  rintro e w2 ⟨N, es, Q, d, vs, rfl, ok, oM, hg2⟩
  have R2 := Lib.hid (R1.out.far hg2 (by omega))
  have B2 := Lib.hid (B1.out.grown hg2 B1.out.size (fun r hr => by injection hr with hr; omega))
  have OK := Lib.hid ok
  have MM := Lib.hid oM
  clear ok oM hg2
  have rc0 := R2.out.cells.1
  have rc1 := R2.out.cells.2
  have rf0 := R2.out.free 0
  have rf1 := R2.out.free 1
  obtain ⟨s1, s2⟩ := R2.out.set0 (.int .i64 (N : Int))
  obtain ⟨s3, s4⟩ := s1.set1 (.slice Q es.length d)
  have ME := Lib.hid ((s1.keeps (R2.out.keeps MM.out s2) s4))
  have BE := Lib.hid ((B2.out.setCell (p := ⟨w.heap.size, 0, none⟩) (Nat.le_refl _) (.int .i64 (N : Int))).setCell (p := ⟨w.heap.size, 1, none⟩) (Nat.le_refl _) (.slice Q es.length d))
  have RE0 := Lib.hid s3.cells.1
  have RE1 := Lib.hid s3.cells.2
  clear s1 s2 s3 s4
  go_wp2_with fail
  obtain ⟨w9, hw9⟩ : ∃ z, (w2.setCell ⟨w.heap.size, 0, none⟩ (.int .i64 (N : Int))).setCell ⟨w.heap.size, 1, none⟩ (.slice Q es.length d) = z := ⟨_, rfl⟩
  rw [hw9] at ME BE RE0 RE1 ⊢
  have re0 := RE0.out
  have re1 := RE1.out
  exact bodyPost_ret (v := .agg #[.int .i64 (N : Int), .slice Q es.length d]) (by simp [results, Try.results13, go_sem, re0, re1]) rfl ⟨N, es, Q, d, rfl, OK.out, ME.out.rws, BE.out⟩
end Go.Proofs.Yteejfjgofpolkaa
