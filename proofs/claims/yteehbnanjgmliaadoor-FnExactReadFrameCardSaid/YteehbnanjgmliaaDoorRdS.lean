/- spec.ReadFrame of every string. -/
import Derived.Test.YteehbnanjgmliaaDoorRdI
import Derived.Test.YteehbnanjgmliaaDoorPhase
import Derived.Test.YteehbnanjgmliaaDoorStepApp2
import Derived.Test.YteehbnanjgmliaaDoorFrS
namespace Go.Proofs.YteehbnanjgmliaaDoor
set_option linter.unusedVariables false
set_option linter.unusedSimpArgs false
set_option maxRecDepth 100000
open Go.RowKit Go.Sort Go.Deep
/-- A variable that holds a frame: a block of its own. -/
def FO (w : World) (g : Nat) (u0 u1 : Value) : Prop := w.ownsRow g 24 2 (.slice (some ⟨g, 0, none⟩) 1 1) 1 [u0, u1]
theorem FO.new (w : World) (u0 u1 : Value) : FO (w.alloc (.cells #[u0, u1] 24)) w.heap.size u0 u1 := by
  have := World.ownsRow_lit (base := w.heap.size) (e := 24) (size := 2) w #[u0, u1] 1 (Nat.le_refl _) (by unfold maxLen; omega) rfl
  unfold FO
  simpa using this
section
variable {w w' : World} {g : Nat} {u0 u1 : Value}
theorem FO.below (h : FO w g u0 u1) (b : Below w.heap.size w w') : FO w' g u0 u1 := World.ownsRow.kept (row := none) h ⟨b.os, b.tape, b.output, b.size, fun k hk _ => b.block k hk⟩ (.inr (by simp [Value.ownBlock]))
theorem FO.cells (h : FO w g u0 u1) : w.cell? ⟨g, 0, none⟩ = some u0 ∧ w.cell? ⟨g, 1, none⟩ = some u1 := by
  have k := World.ownsRow.cells h (g := g) rfl
  have k0 := k 0 u0 rfl
  have k1 := k 1 u1 rfl
  rw [Addr.add_lit, Nat.zero_add] at k0 k1
  exact ⟨k0, k1⟩
theorem FO.free (h : FO w g u0 u1) (j : Nat) : w.frozen? ⟨g, j, none⟩ = false := World.ownsRow.frozenAt h j
theorem FO.lt (h : FO w g u0 u1) : g < w.heap.size := (World.ownsRow.lt h g rfl).2
theorem FO.set0 (h : FO w g u0 u1) (u : Value) : FO (w.setCell ⟨g, 0, none⟩ u) g u u1 ∧ w.grownBy (w.setCell ⟨g, 0, none⟩ u) (some g) := World.ownsRow.stored h 0 u
theorem FO.set1 (h : FO w g u0 u1) (u : Value) : FO (w.setCell ⟨g, 1, none⟩ u) g u0 u ∧ w.grownBy (w.setCell ⟨g, 1, none⟩ u) (some g) := World.ownsRow.stored h 1 u
theorem FO.far (h : FO w g u0 u1) {g2 : Nat} (hg : w.grownBy w' (some g2)) (hne : g ≠ g2) : FO w' g u0 u1 := World.ownsRow.kept h hg (.inr (by simp [Value.ownBlock]; exact hne))
theorem FO.keepM (h : FO w g u0 u1) {base n c : Nat} {A : Option Addr} {vs : List Value} {zss : List (List Int)} (o : OwnM w base A n c vs zss) (hg : w.grownBy w' (Value.slice A n c).ownBlock) : FO w' g u0 u1 := World.ownsRow.kept h hg (own_ne h o.outer (by decide))
theorem FO.keeps (h : FO w g u0 u1) {base n c : Nat} {A : Option Addr} {vs : List Value} {zss : List (List Int)} (o : OwnM w base A n c vs zss) (hg : w.grownBy w' (some g)) : OwnM w' base A n c vs zss :=
  ⟨o.outer.kept hg (own_ne o.outer h (by decide)), o.len, fun j zs e => by obtain ⟨A', c', e1, q⟩ := o.row j zs e; exact ⟨A', c', e1, q.kept hg (own_ne q.1 h (by decide))⟩, o.apart⟩
end

theorem FO.cs {w : World} {g : Nat} {u0 u1 : Value} (h : FO w g u0 u1) : Cs w g [u0, u1] :=
  ⟨h.lt, fun j v hj => by
    match j, hj with
    | 0, hj => simp at hj; subst hj; exact ⟨h.cells.1, h.free 0⟩
    | 1, hj => simp at hj; subst hj; exact ⟨h.cells.2, h.free 1⟩⟩
theorem l08Text_w (V : Int) (rows : List (List Int)) (hf : frB V rows = true) (g : Nat) (A : Option Addr) (m c : Nat) (w : World) (C0 : Cs w g [.int .i64 V, .slice A m c]) (h : Rws w A m c rows) (h20 : m ≤ 1048576) :
    Calls Tryd.prog 10 #[.pointer (some ⟨g, 0, none⟩)] w fun e w' => e = .returned (.string (frT V rows)) ∧ Below w.heap.size w w' := by
  obtain ⟨n, es, rfl, rfl, ok⟩ := frB_yes hf
  exact l08Text_ok n es ok g A m c w C0 h h20
theorem at_list {s : ByteArray} {i : Nat} (h : i < s.size) : s.data.toList[i]? = some s[i] := by
  rw [List.getElem?_eq_getElem (by rw [← size_list]; exact h)]
  rfl
theorem dec_size : ∀ k : Fin 11, (decT k.1).size = if k.1 = 10 then 2 else 1 := by decide
theorem ten_list (s : ByteArray) : (s.extract 0 2).toList = s.data.toList.take 2 := by rw [ByteArray.toList_eq, Lib.extract_from_zero]
theorem head_ten {s : ByteArray} {n : Nat} {es : List (Nat × Nat)} (ok : FrOk n es) (e : frT n (es.map erow) = s) : ((s.extract 0 2).toList == [49, 48]) = decide (n = 10) := by
  rw [ten_list, ← e, frT_bytes]
  have n10 := ok.n10
  by_cases h : n = 10
  · subst h
    rw [decide_eq_true rfl, show dL 10 = [49, 48] from by decide]
    rfl
  · rw [decide_eq_false h, dL_at (by omega)]
    cases es with
    | nil => simp [fL]
    | cons q es => simp [fL]
theorem head_digit {s : ByteArray} {n : Nat} {es : List (Nat × Nat)} (ok : FrOk n es) (e : frT n (es.map erow) = s) (h : 0 < s.size) : s[0].toNat = if n = 10 then 49 else 48 + n := by
  have a := at_list h
  have n10 := ok.n10
  rw [show s.data.toList = dL n ++ fL es by rw [← e, frT_bytes]] at a
  by_cases h : n = 10
  · subst h
    rw [show dL 10 = [49, 48] from by decide] at a
    simp at a
    rw [if_pos rfl, ← a]
    rfl
  · rw [dL_at (by omega)] at a
    simp at a
    rw [if_neg h, ← a]
    simp
    omega
theorem head_size {s : ByteArray} {n : Nat} {es : List (Nat × Nat)} (ok : FrOk n es) (e : frT n (es.map erow) = s) : s.size = (if n = 10 then 2 else 1) + 4 * es.length := by
  rw [← e, frT_size ok, dec_size ⟨n, by have := ok.n10; omega⟩]
theorem ten_digit {s : ByteArray} (h : 0 < s.size) (ht : ((s.extract 0 2).toList == [49, 48]) = true) : s[0].toNat = 49 := by
  rw [ten_list, beq_iff_eq] at ht
  have a := at_list h
  have : (s.data.toList.take 2)[0]? = some 49 := by rw [ht]; rfl
  rw [List.getElem?_take_of_lt (by omega), a] at this
  injection this with this
  rw [this]
  rfl
set_option maxHeartbeats 4000000 in
theorem specRead_d (s : ByteArray) (hs : s.size ≤ 1048576) (w : World) (h1 : 0 < s.size) (h48 : 48 ≤ s[0].toNat) (h57 : s[0].toNat ≤ 57) (hgt : 1 < s.size) (hten : ((s.extract 0 2).toList == [49, 48]) = false) :
    Calls Tryd.prog 4 #[.string s] w (ReadPost s w) := by
  have hc : s.size ≤ 4611686018427387904 := by omega
  have d48 := decide_eq_true (show (48 : Int) ≤ (s[0].toNat : Int) by omega)
  have d57 := decide_eq_true (show (s[0].toNat : Int) ≤ 57 by omega)
  have dgt := decide_eq_true (show (1 : Int) < (s.size : Int) by omega)
  have HD := Lib.hid (show ∀ n es, FrOk n es → frT n (es.map erow) = s → ((s[0].toNat : Int) - 48) = n ∧ s.size = 1 + 4 * es.length ∧ (decT n).size = 1 from fun n es ok e => by
    have t1 := head_ten ok e
    have t2 := head_digit ok e h1
    have t3 := head_size ok e
    have t4 := dec_size ⟨n, by have := ok.n10; omega⟩
    have hn : n ≠ 10 := fun h => by rw [hten, decide_eq_true h] at t1; cases t1
    simp only at t4
    rw [if_neg hn] at t2 t3 t4
    exact ⟨by omega, t3, t4⟩)
  go_enter Tryd.func4, Tryd.ntmps4
  go_wp2_with fail
  clear d48 d57 dgt hten
  have b0 := bel_alloc w (.cells #[.int .i64 0, .slice none 0 0] 24)
  have b1 := bel_trans b0 (bel_alloc (w.alloc (.cells #[.int .i64 0, .slice none 0 0] 24)) (.cells #[] 30))
  have b2 := bel_trans b1 (bel_alloc ((w.alloc (.cells #[.int .i64 0, .slice none 0 0] 24)).alloc (.cells #[] 30)) (.cells #[.int .i64 ((s[0].toNat : Int) - 48), .slice (some ⟨w.heap.size + 1, 0, none⟩) 0 0] 24))
  have z1 : (w.alloc (.cells #[.int .i64 0, .slice none 0 0] 24)).heap.size = w.heap.size + 1 := by simp
  have z2 : ((w.alloc (.cells #[.int .i64 0, .slice none 0 0] 24)).alloc (.cells #[] 30)).heap.size = w.heap.size + 1 + 1 := by simp
  have M0 := (ownM_lit (w.alloc (.cells #[.int .i64 0, .slice none 0 0] 24))).below (bel_alloc _ (.cells #[.int .i64 ((s[0].toNat : Int) - 48), .slice (some ⟨w.heap.size + 1, 0, none⟩) 0 0] 24))
  have F0 := FO.new ((w.alloc (.cells #[.int .i64 0, .slice none 0 0] 24)).alloc (.cells #[] 30)) (.int .i64 ((s[0].toNat : Int) - 48)) (.slice (some ⟨w.heap.size + 1, 0, none⟩) 0 0)
  have R0 := ((FO.new w (.int .i64 0) (.slice none 0 0)).below (bel_alloc _ (.cells #[] 30))).below (bel_alloc _ (.cells #[.int .i64 ((s[0].toNat : Int) - 48), .slice (some ⟨w.heap.size + 1, 0, none⟩) 0 0] 24))
  rw [z1] at M0
  rw [z2] at F0
  have BB := Lib.hid b2
  have MM := Lib.hid M0
  have FF := Lib.hid F0
  have RR := Lib.hid R0
  clear b0 b1 b2 M0 F0 R0 z1 z2
  go_loopw [5] (fun t wr => ∃ (k p : Nat) (Q : Option Addr) (d : Nat) (vs : List Value) (rows : List (List Int)), t = .int .i64 p ∧ p = 1 + 4 * k ∧ p ≤ s.size ∧ rows.length = k ∧ FO wr (w.heap.size + 1 + 1) (.int .i64 ((s[0].toNat : Int) - 48)) (.slice Q k d) ∧ FO wr w.heap.size (.int .i64 0) (.slice none 0 0) ∧ OwnM wr (w.heap.size + 1) Q k d vs rows ∧ (∀ n es, FrOk n es → frT n (es.map erow) = s → rows = (es.take k).map erow) ∧ Below w.heap.size w wr) (fun t _ => s.size - (intOf t).toNat)
  case atStart => exact ⟨0, 1, _, 0, [], [], rfl, rfl, by omega, rfl, FF.out, RR.out, MM.out, fun _ _ _ _ => rfl, BB.out⟩
  case round =>
    obtain ⟨k, p, Q, d, vs, rows, rfl, hpk, hp, hrl, hF, hR, hM, hP, hB⟩ := hrel
    have FR := Lib.hid hF
    have RR := Lib.hid hR
    have MR := Lib.hid hM
    have PR := Lib.hid hP
    have BR := Lib.hid hB
    have szr := hB.size
    have ltF := hF.lt
    have ltR := hR.lt
    have HPK := Lib.hid hpk
    clear hF hR hM hP hB BB MM FF hpk
    by_cases hlt : p + 3 < s.size
    · have hda := decide_eq_true (show ((p : Int) + 3) < (s.size : Int) by omega)
      have q1 := FR.out.cells.2
      have j10 : (0 : Int) ≤ (p : Int) + 1 := by omega
      have j11 : (p : Int) + 1 < (s.size : Int) := by omega
      have j30 : (0 : Int) ≤ (p : Int) + 3 := by omega
      have j31 : (p : Int) + 3 < (s.size : Int) := by omega
      have n1 : p + 1 < s.size := by omega
      have n3 : p + 3 < s.size := by omega
      have t1 : ((p : Int) + 1).toNat = p + 1 := by omega
      have t3 : ((p : Int) + 3).toNat = p + 3 := by omega
      obtain ⟨c1, hc1⟩ : ∃ c : UInt8, s[p + 1]'n1 = c := ⟨_, rfl⟩
      obtain ⟨c3, hc3⟩ : ∃ c : UInt8, s[p + 3]'n3 = c := ⟨_, rfl⟩
      have PF := Lib.hid (show ∀ n es, FrOk n es → frT n (es.map erow) = s → rows ++ [[(c1.toNat : Int) - 48, (c3.toNat : Int) - 48]] = (es.take (k + 1)).map erow from fun n es ok e => by
        obtain ⟨e1, e2, e3⟩ := HD.out n es ok e
        have hpk := HPK.out
        obtain ⟨q, hq⟩ : ∃ q, es[k]? = some q := ⟨_, List.getElem?_eq_getElem (by omega)⟩
        have n9 := ok.nine q (List.mem_of_getElem? hq)
        obtain ⟨a1, a3⟩ := frT_at ok hq
        rw [e, e3, show 1 + 4 * k + 1 = p + 1 by omega, at_list n1, hc1] at a1
        rw [e, e3, show 1 + 4 * k + 3 = p + 3 by omega, at_list n3, hc3] at a3
        injection a1 with a1
        injection a3 with a3
        rw [PR.out n es ok e, take_snoc' hq, List.map_append, a1, a3]
        have u1 : (UInt8.ofNat (48 + q.1)).toNat = 48 + q.1 := by simp; omega
        have u3 : (UInt8.ofNat (48 + q.2)).toNat = 48 + q.2 := by simp; omega
        rw [u1, u3]
        simp [erow]
        omega)
      have ew1 : IntKind.i64.wrap ((p : Int) + 1) = (p : Int) + 1 := IntWalk.i64_in _ (by omega)
      have ew3 : IntKind.i64.wrap ((p : Int) + 3) = (p : Int) + 3 := IntWalk.i64_in _ (by omega)
      have cb1 := UInt8.toNat_lt c1
      have cb3 := UInt8.toNat_lt c3
      have wc1 : IntKind.i64.wrap (c1.toNat : Int) = (c1.toNat : Int) := IntWalk.i64_in _ (by omega)
      have wc3 : IntKind.i64.wrap (c3.toNat : Int) = (c3.toNat : Int) := IntWalk.i64_in _ (by omega)
      have wd1 : IntKind.i64.wrap ((c1.toNat : Int) - 48) = (c1.toNat : Int) - 48 := IntWalk.i64_in _ (by omega)
      have wd3 : IntKind.i64.wrap ((c3.toNat : Int) - 48) = (c3.toNat : Int) - 48 := IntWalk.i64_in _ (by omega)
      go_wp2_with fail
      refine wp_region_noPanic ?_
      refine wp_region_R (inFirst (fun W => W.cell? ⟨w.heap.size + 1 + 1, 1, none⟩ = some (.slice Q k d)) 17) (by kernel_rfl) ?_
      have SS := Lib.hid (fun (W : World) (hW : Below wr.heap.size wr W) => (show W.cell? ⟨w.heap.size + 1 + 1, 1, none⟩ = some (.slice Q k d) from (FR.out.below hW).cells.2))
      have hS := SS.out wr.drew ⟨rfl, rfl, rfl, Nat.le_refl _, fun _ _ => rfl⟩
      refine anyR_take (i := 0) (.pointer (some ⟨w.heap.size + 1 + 1, 1, none⟩)) rfl (by kernel_rfl) (by kernel_rfl) (by kernel_rfl) (by kernel_rfl) (fun _ _ _ h => h) (by assumption) ⟨by rfl, ?_⟩ ?_
      · intro W hW
        go_simp
      try simp only [Act.put, List.setIfInBounds_toArray, List.set_cons_zero, List.set_cons_succ, List.getElem_toArray, List.getElem_cons_zero, List.getElem_cons_succ]
      refine anyR_take (i := 1) (.slice Q k d) rfl (by kernel_rfl) (by kernel_rfl) (by kernel_rfl) (by kernel_rfl) (fun _ _ _ h => h) (by assumption) ⟨by rfl, ?_⟩ ?_
      · intro W hW
        go_simp
      try simp only [Act.put, List.setIfInBounds_toArray, List.set_cons_zero, List.set_cons_succ, List.getElem_toArray, List.getElem_cons_zero, List.getElem_cons_succ]
      refine anyR_take (i := 2) (.string s) rfl (by kernel_rfl) (by kernel_rfl) (by kernel_rfl) (by kernel_rfl) (fun _ _ _ h => h) (by assumption) ⟨by rfl, ?_⟩ ?_
      · intro W hW
        go_simp
      try simp only [Act.put, List.setIfInBounds_toArray, List.set_cons_zero, List.set_cons_succ, List.getElem_toArray, List.getElem_cons_zero, List.getElem_cons_succ]
      refine anyR_take (i := 3) (.int .i64 p) rfl (by kernel_rfl) (by kernel_rfl) (by kernel_rfl) (by kernel_rfl) (fun _ _ _ h => h) (by assumption) ⟨by rfl, ?_⟩ ?_
      · intro W hW
        go_simp
      try simp only [Act.put, List.setIfInBounds_toArray, List.set_cons_zero, List.set_cons_succ, List.getElem_toArray, List.getElem_cons_zero, List.getElem_cons_succ]
      refine anyR_take (i := 4) (.int .i64 ((p : Int) + 1)) rfl (by kernel_rfl) (by kernel_rfl) (by kernel_rfl) (by kernel_rfl) (fun _ _ _ h => h) (by assumption) ⟨by rfl, ?_⟩ ?_
      · intro W hW
        go_simp
      try simp only [Act.put, List.setIfInBounds_toArray, List.set_cons_zero, List.set_cons_succ, List.getElem_toArray, List.getElem_cons_zero, List.getElem_cons_succ]
      refine anyR_take (i := 5) (.int .u8 (c1.toNat : Int)) rfl (by kernel_rfl) (by kernel_rfl) (by kernel_rfl) (by kernel_rfl) (fun _ _ _ h => h) (by assumption) ⟨by rfl, ?_⟩ ?_
      · intro W hW
        go_simp
      try simp only [Act.put, List.setIfInBounds_toArray, List.set_cons_zero, List.set_cons_succ, List.getElem_toArray, List.getElem_cons_zero, List.getElem_cons_succ]
      refine anyR_take (i := 6) (.int .i64 (c1.toNat : Int)) rfl (by kernel_rfl) (by kernel_rfl) (by kernel_rfl) (by kernel_rfl) (fun _ _ _ h => h) (by assumption) ⟨by rfl, ?_⟩ ?_
      · intro W hW
        go_simp
      try simp only [Act.put, List.setIfInBounds_toArray, List.set_cons_zero, List.set_cons_succ, List.getElem_toArray, List.getElem_cons_zero, List.getElem_cons_succ]
      refine anyR_take (i := 7) (.int .i64 ((c1.toNat : Int) - 48)) rfl (by kernel_rfl) (by kernel_rfl) (by kernel_rfl) (by kernel_rfl) (fun _ _ _ h => h) (by assumption) ⟨by rfl, ?_⟩ ?_
      · intro W hW
        go_simp
      try simp only [Act.put, List.setIfInBounds_toArray, List.set_cons_zero, List.set_cons_succ, List.getElem_toArray, List.getElem_cons_zero, List.getElem_cons_succ]
      refine anyR_take (i := 8) (.string s) rfl (by kernel_rfl) (by kernel_rfl) (by kernel_rfl) (by kernel_rfl) (fun _ _ _ h => h) (by assumption) ⟨by rfl, ?_⟩ ?_
      · intro W hW
        go_simp
      try simp only [Act.put, List.setIfInBounds_toArray, List.set_cons_zero, List.set_cons_succ, List.getElem_toArray, List.getElem_cons_zero, List.getElem_cons_succ]
      refine anyR_take (i := 9) (.int .i64 p) rfl (by kernel_rfl) (by kernel_rfl) (by kernel_rfl) (by kernel_rfl) (fun _ _ _ h => h) (by assumption) ⟨by rfl, ?_⟩ ?_
      · intro W hW
        go_simp
      try simp only [Act.put, List.setIfInBounds_toArray, List.set_cons_zero, List.set_cons_succ, List.getElem_toArray, List.getElem_cons_zero, List.getElem_cons_succ]
      refine anyR_take (i := 10) (.int .i64 ((p : Int) + 3)) rfl (by kernel_rfl) (by kernel_rfl) (by kernel_rfl) (by kernel_rfl) (fun _ _ _ h => h) (by assumption) ⟨by rfl, ?_⟩ ?_
      · intro W hW
        go_simp
      try simp only [Act.put, List.setIfInBounds_toArray, List.set_cons_zero, List.set_cons_succ, List.getElem_toArray, List.getElem_cons_zero, List.getElem_cons_succ]
      refine anyR_take (i := 11) (.int .u8 (c3.toNat : Int)) rfl (by kernel_rfl) (by kernel_rfl) (by kernel_rfl) (by kernel_rfl) (fun _ _ _ h => h) (by assumption) ⟨by rfl, ?_⟩ ?_
      · intro W hW
        go_simp
      try simp only [Act.put, List.setIfInBounds_toArray, List.set_cons_zero, List.set_cons_succ, List.getElem_toArray, List.getElem_cons_zero, List.getElem_cons_succ]
      refine anyR_take (i := 12) (.int .i64 (c3.toNat : Int)) rfl (by kernel_rfl) (by kernel_rfl) (by kernel_rfl) (by kernel_rfl) (fun _ _ _ h => h) (by assumption) ⟨by rfl, ?_⟩ ?_
      · intro W hW
        go_simp
      try simp only [Act.put, List.setIfInBounds_toArray, List.set_cons_zero, List.set_cons_succ, List.getElem_toArray, List.getElem_cons_zero, List.getElem_cons_succ]
      refine anyR_take (i := 13) (.int .i64 ((c3.toNat : Int) - 48)) rfl (by kernel_rfl) (by kernel_rfl) (by kernel_rfl) (by kernel_rfl) (fun _ _ _ h => h) (by assumption) ⟨by rfl, ?_⟩ ?_
      · intro W hW
        go_simp
      try simp only [Act.put, List.setIfInBounds_toArray, List.set_cons_zero, List.set_cons_succ, List.getElem_toArray, List.getElem_cons_zero, List.getElem_cons_succ]
      refine anyR_one (i := 14) (by kernel_rfl) rfl ?_
      intro K hK
      go_simp
      have ba := bel_alloc wr (.cells #[.int .i64 ((c1.toNat : Int) - 48), .int .i64 ((c3.toNat : Int) - 48)] 2)
      have ua : Below wr.heap.size wr (wr.alloc (.cells #[.int .i64 ((c1.toNat : Int) - 48), .int .i64 ((c3.toNat : Int) - 48)] 2)).drew := bel_trans ba ⟨rfl, rfl, rfl, Nat.le_refl _, fun _ _ => rfl⟩
      have hT := SS.out _ ua
      refine hK.out _ _ (fun _ => hT) ?_
      clear hK K
      try simp only [Act.put, List.setIfInBounds_toArray, List.set_cons_zero, List.set_cons_succ, List.getElem_toArray, List.getElem_cons_zero, List.getElem_cons_succ]
      clear hS
      have ROW0 := (show OwnI (wr.alloc (.cells #[.int .i64 ((c1.toNat : Int) - 48), .int .i64 ((c3.toNat : Int) - 48)] 2)) wr.heap.size (some ⟨wr.heap.size, 0, none⟩) 2 2 [(c1.toNat : Int) - 48, (c3.toNat : Int) - 48] from ownI_row wr [(c1.toNat : Int) - 48, (c3.toNat : Int) - 48] (by intro z hz; simp at hz; rcases hz with rfl | rfl <;> exact WalkArith.wf_i64 (by omega)) (by simp)).below (w' := (wr.alloc (.cells #[.int .i64 ((c1.toNat : Int) - 48), .int .i64 ((c3.toNat : Int) - 48)] 2)).drew) ⟨rfl, rfl, rfl, Nat.le_refl _, fun _ _ => rfl⟩
      have zb : (wr.alloc (.cells #[.int .i64 ((c1.toNat : Int) - 48), .int .i64 ((c3.toNat : Int) - 48)] 2)).drew.heap.size = wr.heap.size + 1 := by show (wr.alloc (.cells #[.int .i64 ((c1.toNat : Int) - 48), .int .i64 ((c3.toNat : Int) - 48)] 2)).heap.size = _; simp
      obtain ⟨wb, hwb⟩ : ∃ z, (wr.alloc (.cells #[.int .i64 ((c1.toNat : Int) - 48), .int .i64 ((c3.toNat : Int) - 48)] 2)).drew = z := ⟨_, rfl⟩
      rw [hwb] at ua hT ROW0 zb ⊢
      clear hwb ba
      refine anyR_one (i := 15) (by kernel_rfl) rfl ?_
      intro K hK
      go_simp
      have bc := bel_alloc wb (.cells #[.slice (some ⟨wr.heap.size, 0, none⟩) 2 2] 30)
      have uc := bel_trans ua bc
      have hT := SS.out _ uc
      refine hK.out _ _ (fun _ => hT) ?_
      clear hK K
      try simp only [Act.put, List.setIfInBounds_toArray, List.set_cons_zero, List.set_cons_succ, List.getElem_toArray, List.getElem_cons_zero, List.getElem_cons_succ]
      clear hT
      have PC := Lib.hid (MR.out.below uc)
      have RC := Lib.hid (ROW0.below bc)
      have FC := Lib.hid (FR.out.below uc)
      have RRC := Lib.hid (RR.out.below uc)
      have BC := Lib.hid (bel_trans BR.out uc)
      have HCN := Lib.hid (show (wb.alloc (.cells #[.slice (some ⟨wr.heap.size, 0, none⟩) 2 2] 30)).cell? ⟨wr.heap.size + 1, 0, none⟩ = some (.slice (some ⟨wr.heap.size, 0, none⟩) 2 2) from by have := (Cs.new wb [.slice (some ⟨wr.heap.size, 0, none⟩) 2 2] 30).cell 0 rfl; rwa [zb] at this)
      have AP := Lib.hid (apart_new (base := 0) (vs := vs) (fun v hv g' hg' => (MR.out.blocks v hv g' hg').2) RC.out)
      have RM := Lib.hid (RC.out.mono (b2 := w.heap.size + 1) (by omega))
      have loC : w.heap.size + 1 ≤ (wb.alloc (.cells #[.slice (some ⟨wr.heap.size, 0, none⟩) 2 2] 30)).heap.size := by have := uc.size; omega
      obtain ⟨wc, hwc⟩ : ∃ z, wb.alloc (.cells #[.slice (some ⟨wr.heap.size, 0, none⟩) 2 2] 30) = z := ⟨_, rfl⟩
      rw [hwc] at PC RC FC RRC BC HCN RM loC ⊢
      clear ua bc uc hwc ROW0 RC
      have hes : k ≤ 1099511627776 := by have := HPK.out; omega
      refine anyR_one (i := 16) (by kernel_rfl) rfl ?_
      intro K hK
      refine step_app_row _ (by rfl) _ _ (by rfl) (w.heap.size + 1) Q k d vs rows (by rfl) PC.out (some ⟨wr.heap.size, 0, none⟩) 2 2 [(c1.toNat : Int) - 48, (c3.toNat : Int) - 48] RM.out AP.out (wr.heap.size + 1) (by rfl) HCN.out hes loC ?_
      intro g8 c8 w8 p1 p2 p3
      have M8 := Lib.hid p1
      have F8 := Lib.hid (FC.out.keepM PC.out p2)
      have R8 := Lib.hid (RRC.out.keepM PC.out p2)
      have B8 := Lib.hid (BC.out.grown p2 (by omega) (fun x hx => by have := (PC.out.block x hx).1; omega))
      have cx := F8.out.cells.2
      have fx := F8.out.free 1
      refine hK.out _ _ (fun _ => cx) ?_
      clear hK K
      try simp only [Act.put, List.setIfInBounds_toArray, List.set_cons_zero, List.set_cons_succ, List.getElem_toArray, List.getElem_cons_zero, List.getElem_cons_succ]
      have hS := cx
      clear p1 p2 p3
      refine anyR_one (i := 17) (by kernel_rfl) rfl ?_
      intro K hK
      go_simp
      refine hK.out _ _ (fun h => absurd h (by decide)) ?_
      clear hK K
      try simp only [Act.put, List.setIfInBounds_toArray, List.set_cons_zero, List.set_cons_succ, List.getElem_toArray, List.getElem_cons_zero, List.getElem_cons_succ]
      refine anyR_one (i := 18) (by kernel_rfl) rfl ?_
      intro K hK
      go_simp
      refine hK.out _ _ (fun h => absurd h (by decide)) ?_
      clear hK K
      try simp only [Act.put, List.setIfInBounds_toArray, List.set_cons_zero, List.set_cons_succ, List.getElem_toArray, List.getElem_cons_zero, List.getElem_cons_succ]
      refine anyR_done (by kernel_rfl) ?_ _
      refine NoPanic.normal ?_
      clear hS cx fx
      obtain ⟨st1, st2⟩ := F8.out.set1 (.slice (some ⟨g8, 0, none⟩) (k + 1) c8)
      have FE := Lib.hid st1
      have RE := Lib.hid (R8.out.far st2 (by omega))
      have ME := Lib.hid (F8.out.keeps M8.out st2)
      have BE := Lib.hid (B8.out.grown st2 (by have := B8.out.size; omega) (fun x hx => by injection hx with hx; omega))
      have hpk := HPK.out
      clear st1 st2
      go_wp2_with fail
      go_roundw
      case rel => exact ⟨k + 1, p + 4, some ⟨g8, 0, none⟩, c8, _, rows ++ [[(c1.toNat : Int) - 48, (c3.toNat : Int) - 48]], by go_num, by omega, by omega, by simp [hrl], FE.out, RE.out, ME.out, PF.out, BE.out⟩
      case measure => simp [intOf]; omega
    · have hda := decide_eq_false (show ¬ ((p : Int) + 3) < (s.size : Int) by omega)
      have CS := Lib.hid FR.out.cs
      have QM := Lib.hid MR.out.rws
      have HRL := Lib.hid hrl
      have RD := Lib.hid (show Reads s ((s[0].toNat : Int) - 48) rows from fun n es ok e => by
        obtain ⟨e1, e2, e3⟩ := HD.out n es ok e
        have hpk := HPK.out
        refine ⟨e1, ?_⟩
        rw [PR.out n es ok e, List.take_of_length_le (by omega)])
      have hes : k ≤ 1048576 := by have := HPK.out; omega
      go_wp2_with fail
      refine (l08Is_any ((s[0].toNat : Int) - 48) rows (w.heap.size + 1 + 1) Q k d wr CS.out QM.out).mono ?_
      rintro e w6 ⟨rfl, b6⟩
      have F6 := Lib.hid (FR.out.below b6)
      have R6 := Lib.hid (RR.out.below b6)
      have M6 := Lib.hid (MR.out.below b6)
      have B6 := Lib.hid (bel_trans BR.out b6)
      clear FR RR MR BR b6 CS QM
      cases hf : frB ((s[0].toNat : Int) - 48) rows
      · have RES := Lib.hid (RD.out.no (fun h => by rw [hf] at h; cases h))
        clear hf
        have rc0 := R6.out.cells.1
        have rc1 := R6.out.cells.2
        have rf0 := R6.out.free 0
        have rf1 := R6.out.free 1
        obtain ⟨s1, s2⟩ := R6.out.set0 (.int .i64 0)
        obtain ⟨s3, s4⟩ := s1.set1 (.slice none 0 0)
        have BE := Lib.hid ((B6.out.setCell (p := ⟨w.heap.size, 0, none⟩) (Nat.le_refl _) (.int .i64 0)).setCell (p := ⟨w.heap.size, 1, none⟩) (Nat.le_refl _) (.slice none 0 0))
        have RE := Lib.hid s3
        clear s1 s2 s3 s4
        go_wp2_with fail
        obtain ⟨w9, hw9⟩ : ∃ z, (w6.setCell ⟨w.heap.size, 0, none⟩ (.int .i64 0)).setCell ⟨w.heap.size, 1, none⟩ (.slice none 0 0) = z := ⟨_, rfl⟩
        rw [hw9] at BE RE ⊢
        have re0 := RE.out.cells.1
        have re1 := RE.out.cells.2
        exact bodyPost_ret (v := .tuple #[.agg #[.int .i64 0, .slice none 0 0], .bool false]) (by simp [results, Tryd.results4, go_sem, re0, re1]) rfl ⟨0, [], false, none, 0, [], rfl, ownM_nil _ _, RES.out, BE.out⟩
      · have TX := Lib.hid (l08Text_w ((s[0].toNat : Int) - 48) rows hf (w.heap.size + 1 + 1) Q k d w6 F6.out.cs M6.out.rws hes)
        have HF := Lib.hid hf
        clear hf
        go_wp2_with fail
        refine TX.out.mono ?_
        rintro e w7 ⟨rfl, b7⟩
        have F7 := Lib.hid (F6.out.below b7)
        have R7 := Lib.hid (R6.out.below b7)
        have M7 := Lib.hid (M6.out.below b7)
        have B7 := Lib.hid (bel_trans B6.out b7)
        clear F6 R6 M6 B6 b7 TX
        by_cases ht : frT ((s[0].toNat : Int) - 48) rows = s
        · have RES := Lib.hid (Reads.yes HF.out ht)
          have hq : ((frT ((s[0].toNat : Int) - 48) rows).toList == s.toList) = true := (Lib.bytes_beq_iff _ _).2 ht
          clear ht
          have h0c := F7.out.cells.1
          have h1c := F7.out.cells.2
          have rc0 := R7.out.cells.1
          have rc1 := R7.out.cells.2
          have rf0 := R7.out.free 0
          have rf1 := R7.out.free 1
          obtain ⟨s1, s2⟩ := R7.out.set0 (.int .i64 ((s[0].toNat : Int) - 48))
          obtain ⟨s3, s4⟩ := s1.set1 (.slice Q k d)
          have ME := Lib.hid (((s1.keeps (R7.out.keeps M7.out s2) s4)).mono (b2 := w.heap.size) (by omega))
          have BE := Lib.hid ((B7.out.setCell (p := ⟨w.heap.size, 0, none⟩) (Nat.le_refl _) (.int .i64 ((s[0].toNat : Int) - 48))).setCell (p := ⟨w.heap.size, 1, none⟩) (Nat.le_refl _) (.slice Q k d))
          have RE := Lib.hid s3
          clear s1 s2 s3 s4
          go_wp2_with fail
          obtain ⟨w9, hw9⟩ : ∃ z, (w7.setCell ⟨w.heap.size, 0, none⟩ (.int .i64 ((s[0].toNat : Int) - 48))).setCell ⟨w.heap.size, 1, none⟩ (.slice Q k d) = z := ⟨_, rfl⟩
          rw [hw9] at ME BE RE ⊢
          have re0 := RE.out.cells.1
          have re1 := RE.out.cells.2
          exact bodyPost_ret (v := .tuple #[.agg #[.int .i64 ((s[0].toNat : Int) - 48), .slice Q k d], .bool true]) (by simp [results, Tryd.results4, go_sem, re0, re1]) rfl ⟨((s[0].toNat : Int) - 48), rows, true, Q, d, vs, by rw [HRL.out], by rw [HRL.out]; exact ME.out, RES.out, BE.out⟩
        · have RES := Lib.hid (RD.out.no (fun _ => ht))
          have hq : ((frT ((s[0].toNat : Int) - 48) rows).toList == s.toList) = false := (Lib.bytes_beq_false_iff _ _).2 ht
          clear ht
          have rc0 := R7.out.cells.1
          have rc1 := R7.out.cells.2
          have rf0 := R7.out.free 0
          have rf1 := R7.out.free 1
          obtain ⟨s1, s2⟩ := R7.out.set0 (.int .i64 0)
          obtain ⟨s3, s4⟩ := s1.set1 (.slice none 0 0)
          have BE := Lib.hid ((B7.out.setCell (p := ⟨w.heap.size, 0, none⟩) (Nat.le_refl _) (.int .i64 0)).setCell (p := ⟨w.heap.size, 1, none⟩) (Nat.le_refl _) (.slice none 0 0))
          have RE := Lib.hid s3
          clear s1 s2 s3 s4
          go_wp2_with fail
          obtain ⟨w9, hw9⟩ : ∃ z, (w7.setCell ⟨w.heap.size, 0, none⟩ (.int .i64 0)).setCell ⟨w.heap.size, 1, none⟩ (.slice none 0 0) = z := ⟨_, rfl⟩
          rw [hw9] at BE RE ⊢
          have re0 := RE.out.cells.1
          have re1 := RE.out.cells.2
          exact bodyPost_ret (v := .tuple #[.agg #[.int .i64 0, .slice none 0 0], .bool false]) (by simp [results, Tryd.results4, go_sem, re0, re1]) rfl ⟨0, [], false, none, 0, [], rfl, ownM_nil _ _, RES.out, BE.out⟩
set_option maxHeartbeats 4000000 in
theorem specRead_1 (s : ByteArray) (hs : s.size ≤ 1048576) (w : World) (h1 : 0 < s.size) (h48 : 48 ≤ s[0].toNat) (h57 : s[0].toNat ≤ 57) (hgt : s.size = 1) :
    Calls Tryd.prog 4 #[.string s] w (ReadPost s w) := by
  have hc : s.size ≤ 4611686018427387904 := by omega
  have d48 := decide_eq_true (show (48 : Int) ≤ (s[0].toNat : Int) by omega)
  have d57 := decide_eq_true (show (s[0].toNat : Int) ≤ 57 by omega)
  have dgt := decide_eq_false (show ¬ (1 : Int) < (s.size : Int) by omega)
  have HD := Lib.hid (show ∀ n es, FrOk n es → frT n (es.map erow) = s → ((s[0].toNat : Int) - 48) = n ∧ s.size = 1 + 4 * es.length ∧ (decT n).size = 1 from fun n es ok e => by
    have t2 := head_digit ok e h1
    have t3 := head_size ok e
    have t4 := dec_size ⟨n, by have := ok.n10; omega⟩
    have hn : n ≠ 10 := fun h => by rw [if_pos h] at t3; omega
    simp only at t4
    rw [if_neg hn] at t2 t3 t4
    exact ⟨by omega, t3, t4⟩)
  have g1 := Lib.hid hgt
  clear hgt
  go_enter Tryd.func4, Tryd.ntmps4
  go_wp2_with fail
  clear d48 d57 dgt
  have b0 := bel_alloc w (.cells #[.int .i64 0, .slice none 0 0] 24)
  have b1 := bel_trans b0 (bel_alloc (w.alloc (.cells #[.int .i64 0, .slice none 0 0] 24)) (.cells #[] 30))
  have b2 := bel_trans b1 (bel_alloc ((w.alloc (.cells #[.int .i64 0, .slice none 0 0] 24)).alloc (.cells #[] 30)) (.cells #[.int .i64 ((s[0].toNat : Int) - 48), .slice (some ⟨w.heap.size + 1, 0, none⟩) 0 0] 24))
  have z1 : (w.alloc (.cells #[.int .i64 0, .slice none 0 0] 24)).heap.size = w.heap.size + 1 := by simp
  have z2 : ((w.alloc (.cells #[.int .i64 0, .slice none 0 0] 24)).alloc (.cells #[] 30)).heap.size = w.heap.size + 1 + 1 := by simp
  have M0 := (ownM_lit (w.alloc (.cells #[.int .i64 0, .slice none 0 0] 24))).below (bel_alloc _ (.cells #[.int .i64 ((s[0].toNat : Int) - 48), .slice (some ⟨w.heap.size + 1, 0, none⟩) 0 0] 24))
  have F0 := FO.new ((w.alloc (.cells #[.int .i64 0, .slice none 0 0] 24)).alloc (.cells #[] 30)) (.int .i64 ((s[0].toNat : Int) - 48)) (.slice (some ⟨w.heap.size + 1, 0, none⟩) 0 0)
  have R0 := ((FO.new w (.int .i64 0) (.slice none 0 0)).below (bel_alloc _ (.cells #[] 30))).below (bel_alloc _ (.cells #[.int .i64 ((s[0].toNat : Int) - 48), .slice (some ⟨w.heap.size + 1, 0, none⟩) 0 0] 24))
  rw [z1] at M0
  rw [z2] at F0
  have BB := Lib.hid b2
  have MM := Lib.hid M0
  have FF := Lib.hid F0
  have RR := Lib.hid R0
  clear b0 b1 b2 M0 F0 R0 z1 z2
  go_loopw [5] (fun t wr => ∃ (k p : Nat) (Q : Option Addr) (d : Nat) (vs : List Value) (rows : List (List Int)), t = .int .i64 p ∧ p = 1 + 4 * k ∧ p ≤ s.size ∧ rows.length = k ∧ FO wr (w.heap.size + 1 + 1) (.int .i64 ((s[0].toNat : Int) - 48)) (.slice Q k d) ∧ FO wr w.heap.size (.int .i64 0) (.slice none 0 0) ∧ OwnM wr (w.heap.size + 1) Q k d vs rows ∧ (∀ n es, FrOk n es → frT n (es.map erow) = s → rows = (es.take k).map erow) ∧ Below w.heap.size w wr) (fun t _ => s.size - (intOf t).toNat)
  case atStart => exact ⟨0, 1, _, 0, [], [], rfl, rfl, by omega, rfl, FF.out, RR.out, MM.out, fun _ _ _ _ => rfl, BB.out⟩
  case round =>
    obtain ⟨k, p, Q, d, vs, rows, rfl, hpk, hp, hrl, hF, hR, hM, hP, hB⟩ := hrel
    have FR := Lib.hid hF
    have RR := Lib.hid hR
    have MR := Lib.hid hM
    have PR := Lib.hid hP
    have BR := Lib.hid hB
    have szr := hB.size
    have ltF := hF.lt
    have ltR := hR.lt
    have HPK := Lib.hid hpk
    clear hF hR hM hP hB BB MM FF hpk
    by_cases hlt : p + 3 < s.size
    · have hda := decide_eq_true (show ((p : Int) + 3) < (s.size : Int) by omega)
      have q1 := FR.out.cells.2
      have j10 : (0 : Int) ≤ (p : Int) + 1 := by omega
      have j11 : (p : Int) + 1 < (s.size : Int) := by omega
      have j30 : (0 : Int) ≤ (p : Int) + 3 := by omega
      have j31 : (p : Int) + 3 < (s.size : Int) := by omega
      have n1 : p + 1 < s.size := by omega
      have n3 : p + 3 < s.size := by omega
      have t1 : ((p : Int) + 1).toNat = p + 1 := by omega
      have t3 : ((p : Int) + 3).toNat = p + 3 := by omega
      obtain ⟨c1, hc1⟩ : ∃ c : UInt8, s[p + 1]'n1 = c := ⟨_, rfl⟩
      obtain ⟨c3, hc3⟩ : ∃ c : UInt8, s[p + 3]'n3 = c := ⟨_, rfl⟩
      have PF := Lib.hid (show ∀ n es, FrOk n es → frT n (es.map erow) = s → rows ++ [[(c1.toNat : Int) - 48, (c3.toNat : Int) - 48]] = (es.take (k + 1)).map erow from fun n es ok e => by
        obtain ⟨e1, e2, e3⟩ := HD.out n es ok e
        have hpk := HPK.out
        obtain ⟨q, hq⟩ : ∃ q, es[k]? = some q := ⟨_, List.getElem?_eq_getElem (by omega)⟩
        have n9 := ok.nine q (List.mem_of_getElem? hq)
        obtain ⟨a1, a3⟩ := frT_at ok hq
        rw [e, e3, show 1 + 4 * k + 1 = p + 1 by omega, at_list n1, hc1] at a1
        rw [e, e3, show 1 + 4 * k + 3 = p + 3 by omega, at_list n3, hc3] at a3
        injection a1 with a1
        injection a3 with a3
        rw [PR.out n es ok e, take_snoc' hq, List.map_append, a1, a3]
        have u1 : (UInt8.ofNat (48 + q.1)).toNat = 48 + q.1 := by simp; omega
        have u3 : (UInt8.ofNat (48 + q.2)).toNat = 48 + q.2 := by simp; omega
        rw [u1, u3]
        simp [erow]
        omega)
      have ew1 : IntKind.i64.wrap ((p : Int) + 1) = (p : Int) + 1 := IntWalk.i64_in _ (by omega)
      have ew3 : IntKind.i64.wrap ((p : Int) + 3) = (p : Int) + 3 := IntWalk.i64_in _ (by omega)
      have cb1 := UInt8.toNat_lt c1
      have cb3 := UInt8.toNat_lt c3
      have wc1 : IntKind.i64.wrap (c1.toNat : Int) = (c1.toNat : Int) := IntWalk.i64_in _ (by omega)
      have wc3 : IntKind.i64.wrap (c3.toNat : Int) = (c3.toNat : Int) := IntWalk.i64_in _ (by omega)
      have wd1 : IntKind.i64.wrap ((c1.toNat : Int) - 48) = (c1.toNat : Int) - 48 := IntWalk.i64_in _ (by omega)
      have wd3 : IntKind.i64.wrap ((c3.toNat : Int) - 48) = (c3.toNat : Int) - 48 := IntWalk.i64_in _ (by omega)
      go_wp2_with fail
      refine wp_region_noPanic ?_
      refine wp_region_R (inFirst (fun W => W.cell? ⟨w.heap.size + 1 + 1, 1, none⟩ = some (.slice Q k d)) 17) (by kernel_rfl) ?_
      have SS := Lib.hid (fun (W : World) (hW : Below wr.heap.size wr W) => (show W.cell? ⟨w.heap.size + 1 + 1, 1, none⟩ = some (.slice Q k d) from (FR.out.below hW).cells.2))
      have hS := SS.out wr.drew ⟨rfl, rfl, rfl, Nat.le_refl _, fun _ _ => rfl⟩
      refine anyR_take (i := 0) (.pointer (some ⟨w.heap.size + 1 + 1, 1, none⟩)) rfl (by kernel_rfl) (by kernel_rfl) (by kernel_rfl) (by kernel_rfl) (fun _ _ _ h => h) (by assumption) ⟨by rfl, ?_⟩ ?_
      · intro W hW
        go_simp
      try simp only [Act.put, List.setIfInBounds_toArray, List.set_cons_zero, List.set_cons_succ, List.getElem_toArray, List.getElem_cons_zero, List.getElem_cons_succ]
      refine anyR_take (i := 1) (.slice Q k d) rfl (by kernel_rfl) (by kernel_rfl) (by kernel_rfl) (by kernel_rfl) (fun _ _ _ h => h) (by assumption) ⟨by rfl, ?_⟩ ?_
      · intro W hW
        go_simp
      try simp only [Act.put, List.setIfInBounds_toArray, List.set_cons_zero, List.set_cons_succ, List.getElem_toArray, List.getElem_cons_zero, List.getElem_cons_succ]
      refine anyR_take (i := 2) (.string s) rfl (by kernel_rfl) (by kernel_rfl) (by kernel_rfl) (by kernel_rfl) (fun _ _ _ h => h) (by assumption) ⟨by rfl, ?_⟩ ?_
      · intro W hW
        go_simp
      try simp only [Act.put, List.setIfInBounds_toArray, List.set_cons_zero, List.set_cons_succ, List.getElem_toArray, List.getElem_cons_zero, List.getElem_cons_succ]
      refine anyR_take (i := 3) (.int .i64 p) rfl (by kernel_rfl) (by kernel_rfl) (by kernel_rfl) (by kernel_rfl) (fun _ _ _ h => h) (by assumption) ⟨by rfl, ?_⟩ ?_
      · intro W hW
        go_simp
      try simp only [Act.put, List.setIfInBounds_toArray, List.set_cons_zero, List.set_cons_succ, List.getElem_toArray, List.getElem_cons_zero, List.getElem_cons_succ]
      refine anyR_take (i := 4) (.int .i64 ((p : Int) + 1)) rfl (by kernel_rfl) (by kernel_rfl) (by kernel_rfl) (by kernel_rfl) (fun _ _ _ h => h) (by assumption) ⟨by rfl, ?_⟩ ?_
      · intro W hW
        go_simp
      try simp only [Act.put, List.setIfInBounds_toArray, List.set_cons_zero, List.set_cons_succ, List.getElem_toArray, List.getElem_cons_zero, List.getElem_cons_succ]
      refine anyR_take (i := 5) (.int .u8 (c1.toNat : Int)) rfl (by kernel_rfl) (by kernel_rfl) (by kernel_rfl) (by kernel_rfl) (fun _ _ _ h => h) (by assumption) ⟨by rfl, ?_⟩ ?_
      · intro W hW
        go_simp
      try simp only [Act.put, List.setIfInBounds_toArray, List.set_cons_zero, List.set_cons_succ, List.getElem_toArray, List.getElem_cons_zero, List.getElem_cons_succ]
      refine anyR_take (i := 6) (.int .i64 (c1.toNat : Int)) rfl (by kernel_rfl) (by kernel_rfl) (by kernel_rfl) (by kernel_rfl) (fun _ _ _ h => h) (by assumption) ⟨by rfl, ?_⟩ ?_
      · intro W hW
        go_simp
      try simp only [Act.put, List.setIfInBounds_toArray, List.set_cons_zero, List.set_cons_succ, List.getElem_toArray, List.getElem_cons_zero, List.getElem_cons_succ]
      refine anyR_take (i := 7) (.int .i64 ((c1.toNat : Int) - 48)) rfl (by kernel_rfl) (by kernel_rfl) (by kernel_rfl) (by kernel_rfl) (fun _ _ _ h => h) (by assumption) ⟨by rfl, ?_⟩ ?_
      · intro W hW
        go_simp
      try simp only [Act.put, List.setIfInBounds_toArray, List.set_cons_zero, List.set_cons_succ, List.getElem_toArray, List.getElem_cons_zero, List.getElem_cons_succ]
      refine anyR_take (i := 8) (.string s) rfl (by kernel_rfl) (by kernel_rfl) (by kernel_rfl) (by kernel_rfl) (fun _ _ _ h => h) (by assumption) ⟨by rfl, ?_⟩ ?_
      · intro W hW
        go_simp
      try simp only [Act.put, List.setIfInBounds_toArray, List.set_cons_zero, List.set_cons_succ, List.getElem_toArray, List.getElem_cons_zero, List.getElem_cons_succ]
      refine anyR_take (i := 9) (.int .i64 p) rfl (by kernel_rfl) (by kernel_rfl) (by kernel_rfl) (by kernel_rfl) (fun _ _ _ h => h) (by assumption) ⟨by rfl, ?_⟩ ?_
      · intro W hW
        go_simp
      try simp only [Act.put, List.setIfInBounds_toArray, List.set_cons_zero, List.set_cons_succ, List.getElem_toArray, List.getElem_cons_zero, List.getElem_cons_succ]
      refine anyR_take (i := 10) (.int .i64 ((p : Int) + 3)) rfl (by kernel_rfl) (by kernel_rfl) (by kernel_rfl) (by kernel_rfl) (fun _ _ _ h => h) (by assumption) ⟨by rfl, ?_⟩ ?_
      · intro W hW
        go_simp
      try simp only [Act.put, List.setIfInBounds_toArray, List.set_cons_zero, List.set_cons_succ, List.getElem_toArray, List.getElem_cons_zero, List.getElem_cons_succ]
      refine anyR_take (i := 11) (.int .u8 (c3.toNat : Int)) rfl (by kernel_rfl) (by kernel_rfl) (by kernel_rfl) (by kernel_rfl) (fun _ _ _ h => h) (by assumption) ⟨by rfl, ?_⟩ ?_
      · intro W hW
        go_simp
      try simp only [Act.put, List.setIfInBounds_toArray, List.set_cons_zero, List.set_cons_succ, List.getElem_toArray, List.getElem_cons_zero, List.getElem_cons_succ]
      refine anyR_take (i := 12) (.int .i64 (c3.toNat : Int)) rfl (by kernel_rfl) (by kernel_rfl) (by kernel_rfl) (by kernel_rfl) (fun _ _ _ h => h) (by assumption) ⟨by rfl, ?_⟩ ?_
      · intro W hW
        go_simp
      try simp only [Act.put, List.setIfInBounds_toArray, List.set_cons_zero, List.set_cons_succ, List.getElem_toArray, List.getElem_cons_zero, List.getElem_cons_succ]
      refine anyR_take (i := 13) (.int .i64 ((c3.toNat : Int) - 48)) rfl (by kernel_rfl) (by kernel_rfl) (by kernel_rfl) (by kernel_rfl) (fun _ _ _ h => h) (by assumption) ⟨by rfl, ?_⟩ ?_
      · intro W hW
        go_simp
      try simp only [Act.put, List.setIfInBounds_toArray, List.set_cons_zero, List.set_cons_succ, List.getElem_toArray, List.getElem_cons_zero, List.getElem_cons_succ]
      refine anyR_one (i := 14) (by kernel_rfl) rfl ?_
      intro K hK
      go_simp
      have ba := bel_alloc wr (.cells #[.int .i64 ((c1.toNat : Int) - 48), .int .i64 ((c3.toNat : Int) - 48)] 2)
      have ua : Below wr.heap.size wr (wr.alloc (.cells #[.int .i64 ((c1.toNat : Int) - 48), .int .i64 ((c3.toNat : Int) - 48)] 2)).drew := bel_trans ba ⟨rfl, rfl, rfl, Nat.le_refl _, fun _ _ => rfl⟩
      have hT := SS.out _ ua
      refine hK.out _ _ (fun _ => hT) ?_
      clear hK K
      try simp only [Act.put, List.setIfInBounds_toArray, List.set_cons_zero, List.set_cons_succ, List.getElem_toArray, List.getElem_cons_zero, List.getElem_cons_succ]
      clear hS
      have ROW0 := (show OwnI (wr.alloc (.cells #[.int .i64 ((c1.toNat : Int) - 48), .int .i64 ((c3.toNat : Int) - 48)] 2)) wr.heap.size (some ⟨wr.heap.size, 0, none⟩) 2 2 [(c1.toNat : Int) - 48, (c3.toNat : Int) - 48] from ownI_row wr [(c1.toNat : Int) - 48, (c3.toNat : Int) - 48] (by intro z hz; simp at hz; rcases hz with rfl | rfl <;> exact WalkArith.wf_i64 (by omega)) (by simp)).below (w' := (wr.alloc (.cells #[.int .i64 ((c1.toNat : Int) - 48), .int .i64 ((c3.toNat : Int) - 48)] 2)).drew) ⟨rfl, rfl, rfl, Nat.le_refl _, fun _ _ => rfl⟩
      have zb : (wr.alloc (.cells #[.int .i64 ((c1.toNat : Int) - 48), .int .i64 ((c3.toNat : Int) - 48)] 2)).drew.heap.size = wr.heap.size + 1 := by show (wr.alloc (.cells #[.int .i64 ((c1.toNat : Int) - 48), .int .i64 ((c3.toNat : Int) - 48)] 2)).heap.size = _; simp
      obtain ⟨wb, hwb⟩ : ∃ z, (wr.alloc (.cells #[.int .i64 ((c1.toNat : Int) - 48), .int .i64 ((c3.toNat : Int) - 48)] 2)).drew = z := ⟨_, rfl⟩
      rw [hwb] at ua hT ROW0 zb ⊢
      clear hwb ba
      refine anyR_one (i := 15) (by kernel_rfl) rfl ?_
      intro K hK
      go_simp
      have bc := bel_alloc wb (.cells #[.slice (some ⟨wr.heap.size, 0, none⟩) 2 2] 30)
      have uc := bel_trans ua bc
      have hT := SS.out _ uc
      refine hK.out _ _ (fun _ => hT) ?_
      clear hK K
      try simp only [Act.put, List.setIfInBounds_toArray, List.set_cons_zero, List.set_cons_succ, List.getElem_toArray, List.getElem_cons_zero, List.getElem_cons_succ]
      clear hT
      have PC := Lib.hid (MR.out.below uc)
      have RC := Lib.hid (ROW0.below bc)
      have FC := Lib.hid (FR.out.below uc)
      have RRC := Lib.hid (RR.out.below uc)
      have BC := Lib.hid (bel_trans BR.out uc)
      have HCN := Lib.hid (show (wb.alloc (.cells #[.slice (some ⟨wr.heap.size, 0, none⟩) 2 2] 30)).cell? ⟨wr.heap.size + 1, 0, none⟩ = some (.slice (some ⟨wr.heap.size, 0, none⟩) 2 2) from by have := (Cs.new wb [.slice (some ⟨wr.heap.size, 0, none⟩) 2 2] 30).cell 0 rfl; rwa [zb] at this)
      have AP := Lib.hid (apart_new (base := 0) (vs := vs) (fun v hv g' hg' => (MR.out.blocks v hv g' hg').2) RC.out)
      have RM := Lib.hid (RC.out.mono (b2 := w.heap.size + 1) (by omega))
      have loC : w.heap.size + 1 ≤ (wb.alloc (.cells #[.slice (some ⟨wr.heap.size, 0, none⟩) 2 2] 30)).heap.size := by have := uc.size; omega
      obtain ⟨wc, hwc⟩ : ∃ z, wb.alloc (.cells #[.slice (some ⟨wr.heap.size, 0, none⟩) 2 2] 30) = z := ⟨_, rfl⟩
      rw [hwc] at PC RC FC RRC BC HCN RM loC ⊢
      clear ua bc uc hwc ROW0 RC
      have hes : k ≤ 1099511627776 := by have := HPK.out; omega
      refine anyR_one (i := 16) (by kernel_rfl) rfl ?_
      intro K hK
      refine step_app_row _ (by rfl) _ _ (by rfl) (w.heap.size + 1) Q k d vs rows (by rfl) PC.out (some ⟨wr.heap.size, 0, none⟩) 2 2 [(c1.toNat : Int) - 48, (c3.toNat : Int) - 48] RM.out AP.out (wr.heap.size + 1) (by rfl) HCN.out hes loC ?_
      intro g8 c8 w8 p1 p2 p3
      have M8 := Lib.hid p1
      have F8 := Lib.hid (FC.out.keepM PC.out p2)
      have R8 := Lib.hid (RRC.out.keepM PC.out p2)
      have B8 := Lib.hid (BC.out.grown p2 (by omega) (fun x hx => by have := (PC.out.block x hx).1; omega))
      have cx := F8.out.cells.2
      have fx := F8.out.free 1
      refine hK.out _ _ (fun _ => cx) ?_
      clear hK K
      try simp only [Act.put, List.setIfInBounds_toArray, List.set_cons_zero, List.set_cons_succ, List.getElem_toArray, List.getElem_cons_zero, List.getElem_cons_succ]
      have hS := cx
      clear p1 p2 p3
      refine anyR_one (i := 17) (by kernel_rfl) rfl ?_
      intro K hK
      go_simp
      refine hK.out _ _ (fun h => absurd h (by decide)) ?_
      clear hK K
      try simp only [Act.put, List.setIfInBounds_toArray, List.set_cons_zero, List.set_cons_succ, List.getElem_toArray, List.getElem_cons_zero, List.getElem_cons_succ]
      refine anyR_one (i := 18) (by kernel_rfl) rfl ?_
      intro K hK
      go_simp
      refine hK.out _ _ (fun h => absurd h (by decide)) ?_
      clear hK K
      try simp only [Act.put, List.setIfInBounds_toArray, List.set_cons_zero, List.set_cons_succ, List.getElem_toArray, List.getElem_cons_zero, List.getElem_cons_succ]
      refine anyR_done (by kernel_rfl) ?_ _
      refine NoPanic.normal ?_
      clear hS cx fx
      obtain ⟨st1, st2⟩ := F8.out.set1 (.slice (some ⟨g8, 0, none⟩) (k + 1) c8)
      have FE := Lib.hid st1
      have RE := Lib.hid (R8.out.far st2 (by omega))
      have ME := Lib.hid (F8.out.keeps M8.out st2)
      have BE := Lib.hid (B8.out.grown st2 (by have := B8.out.size; omega) (fun x hx => by injection hx with hx; omega))
      have hpk := HPK.out
      clear st1 st2
      go_wp2_with fail
      go_roundw
      case rel => exact ⟨k + 1, p + 4, some ⟨g8, 0, none⟩, c8, _, rows ++ [[(c1.toNat : Int) - 48, (c3.toNat : Int) - 48]], by go_num, by omega, by omega, by simp [hrl], FE.out, RE.out, ME.out, PF.out, BE.out⟩
      case measure => simp [intOf]; omega
    · have hda := decide_eq_false (show ¬ ((p : Int) + 3) < (s.size : Int) by omega)
      have CS := Lib.hid FR.out.cs
      have QM := Lib.hid MR.out.rws
      have HRL := Lib.hid hrl
      have RD := Lib.hid (show Reads s ((s[0].toNat : Int) - 48) rows from fun n es ok e => by
        obtain ⟨e1, e2, e3⟩ := HD.out n es ok e
        have hpk := HPK.out
        refine ⟨e1, ?_⟩
        rw [PR.out n es ok e, List.take_of_length_le (by omega)])
      have hes : k ≤ 1048576 := by have := HPK.out; omega
      go_wp2_with fail
      refine (l08Is_any ((s[0].toNat : Int) - 48) rows (w.heap.size + 1 + 1) Q k d wr CS.out QM.out).mono ?_
      rintro e w6 ⟨rfl, b6⟩
      have F6 := Lib.hid (FR.out.below b6)
      have R6 := Lib.hid (RR.out.below b6)
      have M6 := Lib.hid (MR.out.below b6)
      have B6 := Lib.hid (bel_trans BR.out b6)
      clear FR RR MR BR b6 CS QM
      cases hf : frB ((s[0].toNat : Int) - 48) rows
      · have RES := Lib.hid (RD.out.no (fun h => by rw [hf] at h; cases h))
        clear hf
        have rc0 := R6.out.cells.1
        have rc1 := R6.out.cells.2
        have rf0 := R6.out.free 0
        have rf1 := R6.out.free 1
        obtain ⟨s1, s2⟩ := R6.out.set0 (.int .i64 0)
        obtain ⟨s3, s4⟩ := s1.set1 (.slice none 0 0)
        have BE := Lib.hid ((B6.out.setCell (p := ⟨w.heap.size, 0, none⟩) (Nat.le_refl _) (.int .i64 0)).setCell (p := ⟨w.heap.size, 1, none⟩) (Nat.le_refl _) (.slice none 0 0))
        have RE := Lib.hid s3
        clear s1 s2 s3 s4
        go_wp2_with fail
        obtain ⟨w9, hw9⟩ : ∃ z, (w6.setCell ⟨w.heap.size, 0, none⟩ (.int .i64 0)).setCell ⟨w.heap.size, 1, none⟩ (.slice none 0 0) = z := ⟨_, rfl⟩
        rw [hw9] at BE RE ⊢
        have re0 := RE.out.cells.1
        have re1 := RE.out.cells.2
        exact bodyPost_ret (v := .tuple #[.agg #[.int .i64 0, .slice none 0 0], .bool false]) (by simp [results, Tryd.results4, go_sem, re0, re1]) rfl ⟨0, [], false, none, 0, [], rfl, ownM_nil _ _, RES.out, BE.out⟩
      · have TX := Lib.hid (l08Text_w ((s[0].toNat : Int) - 48) rows hf (w.heap.size + 1 + 1) Q k d w6 F6.out.cs M6.out.rws hes)
        have HF := Lib.hid hf
        clear hf
        go_wp2_with fail
        refine TX.out.mono ?_
        rintro e w7 ⟨rfl, b7⟩
        have F7 := Lib.hid (F6.out.below b7)
        have R7 := Lib.hid (R6.out.below b7)
        have M7 := Lib.hid (M6.out.below b7)
        have B7 := Lib.hid (bel_trans B6.out b7)
        clear F6 R6 M6 B6 b7 TX
        by_cases ht : frT ((s[0].toNat : Int) - 48) rows = s
        · have RES := Lib.hid (Reads.yes HF.out ht)
          have hq : ((frT ((s[0].toNat : Int) - 48) rows).toList == s.toList) = true := (Lib.bytes_beq_iff _ _).2 ht
          clear ht
          have h0c := F7.out.cells.1
          have h1c := F7.out.cells.2
          have rc0 := R7.out.cells.1
          have rc1 := R7.out.cells.2
          have rf0 := R7.out.free 0
          have rf1 := R7.out.free 1
          obtain ⟨s1, s2⟩ := R7.out.set0 (.int .i64 ((s[0].toNat : Int) - 48))
          obtain ⟨s3, s4⟩ := s1.set1 (.slice Q k d)
          have ME := Lib.hid (((s1.keeps (R7.out.keeps M7.out s2) s4)).mono (b2 := w.heap.size) (by omega))
          have BE := Lib.hid ((B7.out.setCell (p := ⟨w.heap.size, 0, none⟩) (Nat.le_refl _) (.int .i64 ((s[0].toNat : Int) - 48))).setCell (p := ⟨w.heap.size, 1, none⟩) (Nat.le_refl _) (.slice Q k d))
          have RE := Lib.hid s3
          clear s1 s2 s3 s4
          go_wp2_with fail
          obtain ⟨w9, hw9⟩ : ∃ z, (w7.setCell ⟨w.heap.size, 0, none⟩ (.int .i64 ((s[0].toNat : Int) - 48))).setCell ⟨w.heap.size, 1, none⟩ (.slice Q k d) = z := ⟨_, rfl⟩
          rw [hw9] at ME BE RE ⊢
          have re0 := RE.out.cells.1
          have re1 := RE.out.cells.2
          exact bodyPost_ret (v := .tuple #[.agg #[.int .i64 ((s[0].toNat : Int) - 48), .slice Q k d], .bool true]) (by simp [results, Tryd.results4, go_sem, re0, re1]) rfl ⟨((s[0].toNat : Int) - 48), rows, true, Q, d, vs, by rw [HRL.out], by rw [HRL.out]; exact ME.out, RES.out, BE.out⟩
        · have RES := Lib.hid (RD.out.no (fun _ => ht))
          have hq : ((frT ((s[0].toNat : Int) - 48) rows).toList == s.toList) = false := (Lib.bytes_beq_false_iff _ _).2 ht
          clear ht
          have rc0 := R7.out.cells.1
          have rc1 := R7.out.cells.2
          have rf0 := R7.out.free 0
          have rf1 := R7.out.free 1
          obtain ⟨s1, s2⟩ := R7.out.set0 (.int .i64 0)
          obtain ⟨s3, s4⟩ := s1.set1 (.slice none 0 0)
          have BE := Lib.hid ((B7.out.setCell (p := ⟨w.heap.size, 0, none⟩) (Nat.le_refl _) (.int .i64 0)).setCell (p := ⟨w.heap.size, 1, none⟩) (Nat.le_refl _) (.slice none 0 0))
          have RE := Lib.hid s3
          clear s1 s2 s3 s4
          go_wp2_with fail
          obtain ⟨w9, hw9⟩ : ∃ z, (w7.setCell ⟨w.heap.size, 0, none⟩ (.int .i64 0)).setCell ⟨w.heap.size, 1, none⟩ (.slice none 0 0) = z := ⟨_, rfl⟩
          rw [hw9] at BE RE ⊢
          have re0 := RE.out.cells.1
          have re1 := RE.out.cells.2
          exact bodyPost_ret (v := .tuple #[.agg #[.int .i64 0, .slice none 0 0], .bool false]) (by simp [results, Tryd.results4, go_sem, re0, re1]) rfl ⟨0, [], false, none, 0, [], rfl, ownM_nil _ _, RES.out, BE.out⟩
set_option maxHeartbeats 4000000 in
theorem specRead_t (s : ByteArray) (hs : s.size ≤ 1048576) (w : World) (h1 : 0 < s.size) (hgt : 1 < s.size) (hten : ((s.extract 0 2).toList == [49, 48]) = true) :
    Calls Tryd.prog 4 #[.string s] w (ReadPost s w) := by
  have hc : s.size ≤ 4611686018427387904 := by omega
  have h49 := ten_digit h1 hten
  have d48 := decide_eq_true (show (48 : Int) ≤ (s[0].toNat : Int) by omega)
  have d57 := decide_eq_true (show (s[0].toNat : Int) ≤ 57 by omega)
  have dgt := decide_eq_true (show (1 : Int) < (s.size : Int) by omega)
  have HD := Lib.hid (show ∀ n es, FrOk n es → frT n (es.map erow) = s → (10 : Int) = n ∧ s.size = 2 + 4 * es.length ∧ (decT n).size = 2 from fun n es ok e => by
    have t1 := head_ten ok e
    have t3 := head_size ok e
    have t4 := dec_size ⟨n, by have := ok.n10; omega⟩
    rw [hten] at t1
    have hn : n = 10 := of_decide_eq_true t1.symm
    simp only at t4
    rw [if_pos hn] at t3 t4
    exact ⟨by omega, t3, t4⟩)
  have g49 := Lib.hid h49
  have b48 : 48 ≤ s[0].toNat := by omega
  have b57 : s[0].toNat ≤ 57 := by omega
  clear h49
  go_enter Tryd.func4, Tryd.ntmps4
  go_wp2_with fail
  clear d48 d57 dgt hten
  have b0 := bel_alloc w (.cells #[.int .i64 0, .slice none 0 0] 24)
  have b1 := bel_trans b0 (bel_alloc (w.alloc (.cells #[.int .i64 0, .slice none 0 0] 24)) (.cells #[] 30))
  have b2 := bel_trans b1 (bel_alloc ((w.alloc (.cells #[.int .i64 0, .slice none 0 0] 24)).alloc (.cells #[] 30)) (.cells #[.int .i64 (10 : Int), .slice (some ⟨w.heap.size + 1, 0, none⟩) 0 0] 24))
  have z1 : (w.alloc (.cells #[.int .i64 0, .slice none 0 0] 24)).heap.size = w.heap.size + 1 := by simp
  have z2 : ((w.alloc (.cells #[.int .i64 0, .slice none 0 0] 24)).alloc (.cells #[] 30)).heap.size = w.heap.size + 1 + 1 := by simp
  have M0 := (ownM_lit (w.alloc (.cells #[.int .i64 0, .slice none 0 0] 24))).below (bel_alloc _ (.cells #[.int .i64 (10 : Int), .slice (some ⟨w.heap.size + 1, 0, none⟩) 0 0] 24))
  have F0 := FO.new ((w.alloc (.cells #[.int .i64 0, .slice none 0 0] 24)).alloc (.cells #[] 30)) (.int .i64 (10 : Int)) (.slice (some ⟨w.heap.size + 1, 0, none⟩) 0 0)
  have R0 := ((FO.new w (.int .i64 0) (.slice none 0 0)).below (bel_alloc _ (.cells #[] 30))).below (bel_alloc _ (.cells #[.int .i64 (10 : Int), .slice (some ⟨w.heap.size + 1, 0, none⟩) 0 0] 24))
  rw [z1] at M0
  rw [z2] at F0
  have BB := Lib.hid b2
  have MM := Lib.hid M0
  have FF := Lib.hid F0
  have RR := Lib.hid R0
  clear b0 b1 b2 M0 F0 R0 z1 z2
  go_loopw [5] (fun t wr => ∃ (k p : Nat) (Q : Option Addr) (d : Nat) (vs : List Value) (rows : List (List Int)), t = .int .i64 p ∧ p = 2 + 4 * k ∧ p ≤ s.size ∧ rows.length = k ∧ FO wr (w.heap.size + 1 + 1) (.int .i64 (10 : Int)) (.slice Q k d) ∧ FO wr w.heap.size (.int .i64 0) (.slice none 0 0) ∧ OwnM wr (w.heap.size + 1) Q k d vs rows ∧ (∀ n es, FrOk n es → frT n (es.map erow) = s → rows = (es.take k).map erow) ∧ Below w.heap.size w wr) (fun t _ => s.size - (intOf t).toNat)
  case atStart => exact ⟨0, 2, _, 0, [], [], rfl, rfl, by omega, rfl, FF.out, RR.out, MM.out, fun _ _ _ _ => rfl, BB.out⟩
  case round =>
    obtain ⟨k, p, Q, d, vs, rows, rfl, hpk, hp, hrl, hF, hR, hM, hP, hB⟩ := hrel
    have FR := Lib.hid hF
    have RR := Lib.hid hR
    have MR := Lib.hid hM
    have PR := Lib.hid hP
    have BR := Lib.hid hB
    have szr := hB.size
    have ltF := hF.lt
    have ltR := hR.lt
    have HPK := Lib.hid hpk
    clear hF hR hM hP hB BB MM FF hpk
    by_cases hlt : p + 3 < s.size
    · have hda := decide_eq_true (show ((p : Int) + 3) < (s.size : Int) by omega)
      have q1 := FR.out.cells.2
      have j10 : (0 : Int) ≤ (p : Int) + 1 := by omega
      have j11 : (p : Int) + 1 < (s.size : Int) := by omega
      have j30 : (0 : Int) ≤ (p : Int) + 3 := by omega
      have j31 : (p : Int) + 3 < (s.size : Int) := by omega
      have n1 : p + 1 < s.size := by omega
      have n3 : p + 3 < s.size := by omega
      have t1 : ((p : Int) + 1).toNat = p + 1 := by omega
      have t3 : ((p : Int) + 3).toNat = p + 3 := by omega
      obtain ⟨c1, hc1⟩ : ∃ c : UInt8, s[p + 1]'n1 = c := ⟨_, rfl⟩
      obtain ⟨c3, hc3⟩ : ∃ c : UInt8, s[p + 3]'n3 = c := ⟨_, rfl⟩
      have PF := Lib.hid (show ∀ n es, FrOk n es → frT n (es.map erow) = s → rows ++ [[(c1.toNat : Int) - 48, (c3.toNat : Int) - 48]] = (es.take (k + 1)).map erow from fun n es ok e => by
        obtain ⟨e1, e2, e3⟩ := HD.out n es ok e
        have hpk := HPK.out
        obtain ⟨q, hq⟩ : ∃ q, es[k]? = some q := ⟨_, List.getElem?_eq_getElem (by omega)⟩
        have n9 := ok.nine q (List.mem_of_getElem? hq)
        obtain ⟨a1, a3⟩ := frT_at ok hq
        rw [e, e3, show 2 + 4 * k + 1 = p + 1 by omega, at_list n1, hc1] at a1
        rw [e, e3, show 2 + 4 * k + 3 = p + 3 by omega, at_list n3, hc3] at a3
        injection a1 with a1
        injection a3 with a3
        rw [PR.out n es ok e, take_snoc' hq, List.map_append, a1, a3]
        have u1 : (UInt8.ofNat (48 + q.1)).toNat = 48 + q.1 := by simp; omega
        have u3 : (UInt8.ofNat (48 + q.2)).toNat = 48 + q.2 := by simp; omega
        rw [u1, u3]
        simp [erow]
        omega)
      have ew1 : IntKind.i64.wrap ((p : Int) + 1) = (p : Int) + 1 := IntWalk.i64_in _ (by omega)
      have ew3 : IntKind.i64.wrap ((p : Int) + 3) = (p : Int) + 3 := IntWalk.i64_in _ (by omega)
      have cb1 := UInt8.toNat_lt c1
      have cb3 := UInt8.toNat_lt c3
      have wc1 : IntKind.i64.wrap (c1.toNat : Int) = (c1.toNat : Int) := IntWalk.i64_in _ (by omega)
      have wc3 : IntKind.i64.wrap (c3.toNat : Int) = (c3.toNat : Int) := IntWalk.i64_in _ (by omega)
      have wd1 : IntKind.i64.wrap ((c1.toNat : Int) - 48) = (c1.toNat : Int) - 48 := IntWalk.i64_in _ (by omega)
      have wd3 : IntKind.i64.wrap ((c3.toNat : Int) - 48) = (c3.toNat : Int) - 48 := IntWalk.i64_in _ (by omega)
      go_wp2_with fail
      refine wp_region_noPanic ?_
      refine wp_region_R (inFirst (fun W => W.cell? ⟨w.heap.size + 1 + 1, 1, none⟩ = some (.slice Q k d)) 17) (by kernel_rfl) ?_
      have SS := Lib.hid (fun (W : World) (hW : Below wr.heap.size wr W) => (show W.cell? ⟨w.heap.size + 1 + 1, 1, none⟩ = some (.slice Q k d) from (FR.out.below hW).cells.2))
      have hS := SS.out wr.drew ⟨rfl, rfl, rfl, Nat.le_refl _, fun _ _ => rfl⟩
      refine anyR_take (i := 0) (.pointer (some ⟨w.heap.size + 1 + 1, 1, none⟩)) rfl (by kernel_rfl) (by kernel_rfl) (by kernel_rfl) (by kernel_rfl) (fun _ _ _ h => h) (by assumption) ⟨by rfl, ?_⟩ ?_
      · intro W hW
        go_simp
      try simp only [Act.put, List.setIfInBounds_toArray, List.set_cons_zero, List.set_cons_succ, List.getElem_toArray, List.getElem_cons_zero, List.getElem_cons_succ]
      refine anyR_take (i := 1) (.slice Q k d) rfl (by kernel_rfl) (by kernel_rfl) (by kernel_rfl) (by kernel_rfl) (fun _ _ _ h => h) (by assumption) ⟨by rfl, ?_⟩ ?_
      · intro W hW
        go_simp
      try simp only [Act.put, List.setIfInBounds_toArray, List.set_cons_zero, List.set_cons_succ, List.getElem_toArray, List.getElem_cons_zero, List.getElem_cons_succ]
      refine anyR_take (i := 2) (.string s) rfl (by kernel_rfl) (by kernel_rfl) (by kernel_rfl) (by kernel_rfl) (fun _ _ _ h => h) (by assumption) ⟨by rfl, ?_⟩ ?_
      · intro W hW
        go_simp
      try simp only [Act.put, List.setIfInBounds_toArray, List.set_cons_zero, List.set_cons_succ, List.getElem_toArray, List.getElem_cons_zero, List.getElem_cons_succ]
      refine anyR_take (i := 3) (.int .i64 p) rfl (by kernel_rfl) (by kernel_rfl) (by kernel_rfl) (by kernel_rfl) (fun _ _ _ h => h) (by assumption) ⟨by rfl, ?_⟩ ?_
      · intro W hW
        go_simp
      try simp only [Act.put, List.setIfInBounds_toArray, List.set_cons_zero, List.set_cons_succ, List.getElem_toArray, List.getElem_cons_zero, List.getElem_cons_succ]
      refine anyR_take (i := 4) (.int .i64 ((p : Int) + 1)) rfl (by kernel_rfl) (by kernel_rfl) (by kernel_rfl) (by kernel_rfl) (fun _ _ _ h => h) (by assumption) ⟨by rfl, ?_⟩ ?_
      · intro W hW
        go_simp
      try simp only [Act.put, List.setIfInBounds_toArray, List.set_cons_zero, List.set_cons_succ, List.getElem_toArray, List.getElem_cons_zero, List.getElem_cons_succ]
      refine anyR_take (i := 5) (.int .u8 (c1.toNat : Int)) rfl (by kernel_rfl) (by kernel_rfl) (by kernel_rfl) (by kernel_rfl) (fun _ _ _ h => h) (by assumption) ⟨by rfl, ?_⟩ ?_
      · intro W hW
        go_simp
      try simp only [Act.put, List.setIfInBounds_toArray, List.set_cons_zero, List.set_cons_succ, List.getElem_toArray, List.getElem_cons_zero, List.getElem_cons_succ]
      refine anyR_take (i := 6) (.int .i64 (c1.toNat : Int)) rfl (by kernel_rfl) (by kernel_rfl) (by kernel_rfl) (by kernel_rfl) (fun _ _ _ h => h) (by assumption) ⟨by rfl, ?_⟩ ?_
      · intro W hW
        go_simp
      try simp only [Act.put, List.setIfInBounds_toArray, List.set_cons_zero, List.set_cons_succ, List.getElem_toArray, List.getElem_cons_zero, List.getElem_cons_succ]
      refine anyR_take (i := 7) (.int .i64 ((c1.toNat : Int) - 48)) rfl (by kernel_rfl) (by kernel_rfl) (by kernel_rfl) (by kernel_rfl) (fun _ _ _ h => h) (by assumption) ⟨by rfl, ?_⟩ ?_
      · intro W hW
        go_simp
      try simp only [Act.put, List.setIfInBounds_toArray, List.set_cons_zero, List.set_cons_succ, List.getElem_toArray, List.getElem_cons_zero, List.getElem_cons_succ]
      refine anyR_take (i := 8) (.string s) rfl (by kernel_rfl) (by kernel_rfl) (by kernel_rfl) (by kernel_rfl) (fun _ _ _ h => h) (by assumption) ⟨by rfl, ?_⟩ ?_
      · intro W hW
        go_simp
      try simp only [Act.put, List.setIfInBounds_toArray, List.set_cons_zero, List.set_cons_succ, List.getElem_toArray, List.getElem_cons_zero, List.getElem_cons_succ]
      refine anyR_take (i := 9) (.int .i64 p) rfl (by kernel_rfl) (by kernel_rfl) (by kernel_rfl) (by kernel_rfl) (fun _ _ _ h => h) (by assumption) ⟨by rfl, ?_⟩ ?_
      · intro W hW
        go_simp
      try simp only [Act.put, List.setIfInBounds_toArray, List.set_cons_zero, List.set_cons_succ, List.getElem_toArray, List.getElem_cons_zero, List.getElem_cons_succ]
      refine anyR_take (i := 10) (.int .i64 ((p : Int) + 3)) rfl (by kernel_rfl) (by kernel_rfl) (by kernel_rfl) (by kernel_rfl) (fun _ _ _ h => h) (by assumption) ⟨by rfl, ?_⟩ ?_
      · intro W hW
        go_simp
      try simp only [Act.put, List.setIfInBounds_toArray, List.set_cons_zero, List.set_cons_succ, List.getElem_toArray, List.getElem_cons_zero, List.getElem_cons_succ]
      refine anyR_take (i := 11) (.int .u8 (c3.toNat : Int)) rfl (by kernel_rfl) (by kernel_rfl) (by kernel_rfl) (by kernel_rfl) (fun _ _ _ h => h) (by assumption) ⟨by rfl, ?_⟩ ?_
      · intro W hW
        go_simp
      try simp only [Act.put, List.setIfInBounds_toArray, List.set_cons_zero, List.set_cons_succ, List.getElem_toArray, List.getElem_cons_zero, List.getElem_cons_succ]
      refine anyR_take (i := 12) (.int .i64 (c3.toNat : Int)) rfl (by kernel_rfl) (by kernel_rfl) (by kernel_rfl) (by kernel_rfl) (fun _ _ _ h => h) (by assumption) ⟨by rfl, ?_⟩ ?_
      · intro W hW
        go_simp
      try simp only [Act.put, List.setIfInBounds_toArray, List.set_cons_zero, List.set_cons_succ, List.getElem_toArray, List.getElem_cons_zero, List.getElem_cons_succ]
      refine anyR_take (i := 13) (.int .i64 ((c3.toNat : Int) - 48)) rfl (by kernel_rfl) (by kernel_rfl) (by kernel_rfl) (by kernel_rfl) (fun _ _ _ h => h) (by assumption) ⟨by rfl, ?_⟩ ?_
      · intro W hW
        go_simp
      try simp only [Act.put, List.setIfInBounds_toArray, List.set_cons_zero, List.set_cons_succ, List.getElem_toArray, List.getElem_cons_zero, List.getElem_cons_succ]
      refine anyR_one (i := 14) (by kernel_rfl) rfl ?_
      intro K hK
      go_simp
      have ba := bel_alloc wr (.cells #[.int .i64 ((c1.toNat : Int) - 48), .int .i64 ((c3.toNat : Int) - 48)] 2)
      have ua : Below wr.heap.size wr (wr.alloc (.cells #[.int .i64 ((c1.toNat : Int) - 48), .int .i64 ((c3.toNat : Int) - 48)] 2)).drew := bel_trans ba ⟨rfl, rfl, rfl, Nat.le_refl _, fun _ _ => rfl⟩
      have hT := SS.out _ ua
      refine hK.out _ _ (fun _ => hT) ?_
      clear hK K
      try simp only [Act.put, List.setIfInBounds_toArray, List.set_cons_zero, List.set_cons_succ, List.getElem_toArray, List.getElem_cons_zero, List.getElem_cons_succ]
      clear hS
      have ROW0 := (show OwnI (wr.alloc (.cells #[.int .i64 ((c1.toNat : Int) - 48), .int .i64 ((c3.toNat : Int) - 48)] 2)) wr.heap.size (some ⟨wr.heap.size, 0, none⟩) 2 2 [(c1.toNat : Int) - 48, (c3.toNat : Int) - 48] from ownI_row wr [(c1.toNat : Int) - 48, (c3.toNat : Int) - 48] (by intro z hz; simp at hz; rcases hz with rfl | rfl <;> exact WalkArith.wf_i64 (by omega)) (by simp)).below (w' := (wr.alloc (.cells #[.int .i64 ((c1.toNat : Int) - 48), .int .i64 ((c3.toNat : Int) - 48)] 2)).drew) ⟨rfl, rfl, rfl, Nat.le_refl _, fun _ _ => rfl⟩
      have zb : (wr.alloc (.cells #[.int .i64 ((c1.toNat : Int) - 48), .int .i64 ((c3.toNat : Int) - 48)] 2)).drew.heap.size = wr.heap.size + 1 := by show (wr.alloc (.cells #[.int .i64 ((c1.toNat : Int) - 48), .int .i64 ((c3.toNat : Int) - 48)] 2)).heap.size = _; simp
      obtain ⟨wb, hwb⟩ : ∃ z, (wr.alloc (.cells #[.int .i64 ((c1.toNat : Int) - 48), .int .i64 ((c3.toNat : Int) - 48)] 2)).drew = z := ⟨_, rfl⟩
      rw [hwb] at ua hT ROW0 zb ⊢
      clear hwb ba
      refine anyR_one (i := 15) (by kernel_rfl) rfl ?_
      intro K hK
      go_simp
      have bc := bel_alloc wb (.cells #[.slice (some ⟨wr.heap.size, 0, none⟩) 2 2] 30)
      have uc := bel_trans ua bc
      have hT := SS.out _ uc
      refine hK.out _ _ (fun _ => hT) ?_
      clear hK K
      try simp only [Act.put, List.setIfInBounds_toArray, List.set_cons_zero, List.set_cons_succ, List.getElem_toArray, List.getElem_cons_zero, List.getElem_cons_succ]
      clear hT
      have PC := Lib.hid (MR.out.below uc)
      have RC := Lib.hid (ROW0.below bc)
      have FC := Lib.hid (FR.out.below uc)
      have RRC := Lib.hid (RR.out.below uc)
      have BC := Lib.hid (bel_trans BR.out uc)
      have HCN := Lib.hid (show (wb.alloc (.cells #[.slice (some ⟨wr.heap.size, 0, none⟩) 2 2] 30)).cell? ⟨wr.heap.size + 1, 0, none⟩ = some (.slice (some ⟨wr.heap.size, 0, none⟩) 2 2) from by have := (Cs.new wb [.slice (some ⟨wr.heap.size, 0, none⟩) 2 2] 30).cell 0 rfl; rwa [zb] at this)
      have AP := Lib.hid (apart_new (base := 0) (vs := vs) (fun v hv g' hg' => (MR.out.blocks v hv g' hg').2) RC.out)
      have RM := Lib.hid (RC.out.mono (b2 := w.heap.size + 1) (by omega))
      have loC : w.heap.size + 1 ≤ (wb.alloc (.cells #[.slice (some ⟨wr.heap.size, 0, none⟩) 2 2] 30)).heap.size := by have := uc.size; omega
      obtain ⟨wc, hwc⟩ : ∃ z, wb.alloc (.cells #[.slice (some ⟨wr.heap.size, 0, none⟩) 2 2] 30) = z := ⟨_, rfl⟩
      rw [hwc] at PC RC FC RRC BC HCN RM loC ⊢
      clear ua bc uc hwc ROW0 RC
      have hes : k ≤ 1099511627776 := by have := HPK.out; omega
      refine anyR_one (i := 16) (by kernel_rfl) rfl ?_
      intro K hK
      refine step_app_row _ (by rfl) _ _ (by rfl) (w.heap.size + 1) Q k d vs rows (by rfl) PC.out (some ⟨wr.heap.size, 0, none⟩) 2 2 [(c1.toNat : Int) - 48, (c3.toNat : Int) - 48] RM.out AP.out (wr.heap.size + 1) (by rfl) HCN.out hes loC ?_
      intro g8 c8 w8 p1 p2 p3
      have M8 := Lib.hid p1
      have F8 := Lib.hid (FC.out.keepM PC.out p2)
      have R8 := Lib.hid (RRC.out.keepM PC.out p2)
      have B8 := Lib.hid (BC.out.grown p2 (by omega) (fun x hx => by have := (PC.out.block x hx).1; omega))
      have cx := F8.out.cells.2
      have fx := F8.out.free 1
      refine hK.out _ _ (fun _ => cx) ?_
      clear hK K
      try simp only [Act.put, List.setIfInBounds_toArray, List.set_cons_zero, List.set_cons_succ, List.getElem_toArray, List.getElem_cons_zero, List.getElem_cons_succ]
      have hS := cx
      clear p1 p2 p3
      refine anyR_one (i := 17) (by kernel_rfl) rfl ?_
      intro K hK
      go_simp
      refine hK.out _ _ (fun h => absurd h (by decide)) ?_
      clear hK K
      try simp only [Act.put, List.setIfInBounds_toArray, List.set_cons_zero, List.set_cons_succ, List.getElem_toArray, List.getElem_cons_zero, List.getElem_cons_succ]
      refine anyR_one (i := 18) (by kernel_rfl) rfl ?_
      intro K hK
      go_simp
      refine hK.out _ _ (fun h => absurd h (by decide)) ?_
      clear hK K
      try simp only [Act.put, List.setIfInBounds_toArray, List.set_cons_zero, List.set_cons_succ, List.getElem_toArray, List.getElem_cons_zero, List.getElem_cons_succ]
      refine anyR_done (by kernel_rfl) ?_ _
      refine NoPanic.normal ?_
      clear hS cx fx
      obtain ⟨st1, st2⟩ := F8.out.set1 (.slice (some ⟨g8, 0, none⟩) (k + 1) c8)
      have FE := Lib.hid st1
      have RE := Lib.hid (R8.out.far st2 (by omega))
      have ME := Lib.hid (F8.out.keeps M8.out st2)
      have BE := Lib.hid (B8.out.grown st2 (by have := B8.out.size; omega) (fun x hx => by injection hx with hx; omega))
      have hpk := HPK.out
      clear st1 st2
      go_wp2_with fail
      go_roundw
      case rel => exact ⟨k + 1, p + 4, some ⟨g8, 0, none⟩, c8, _, rows ++ [[(c1.toNat : Int) - 48, (c3.toNat : Int) - 48]], by go_num, by omega, by omega, by simp [hrl], FE.out, RE.out, ME.out, PF.out, BE.out⟩
      case measure => simp [intOf]; omega
    · have hda := decide_eq_false (show ¬ ((p : Int) + 3) < (s.size : Int) by omega)
      have CS := Lib.hid FR.out.cs
      have QM := Lib.hid MR.out.rws
      have HRL := Lib.hid hrl
      have RD := Lib.hid (show Reads s (10 : Int) rows from fun n es ok e => by
        obtain ⟨e1, e2, e3⟩ := HD.out n es ok e
        have hpk := HPK.out
        refine ⟨e1, ?_⟩
        rw [PR.out n es ok e, List.take_of_length_le (by omega)])
      have hes : k ≤ 1048576 := by have := HPK.out; omega
      go_wp2_with fail
      refine (l08Is_any (10 : Int) rows (w.heap.size + 1 + 1) Q k d wr CS.out QM.out).mono ?_
      rintro e w6 ⟨rfl, b6⟩
      have F6 := Lib.hid (FR.out.below b6)
      have R6 := Lib.hid (RR.out.below b6)
      have M6 := Lib.hid (MR.out.below b6)
      have B6 := Lib.hid (bel_trans BR.out b6)
      clear FR RR MR BR b6 CS QM
      cases hf : frB (10 : Int) rows
      · have RES := Lib.hid (RD.out.no (fun h => by rw [hf] at h; cases h))
        clear hf
        have rc0 := R6.out.cells.1
        have rc1 := R6.out.cells.2
        have rf0 := R6.out.free 0
        have rf1 := R6.out.free 1
        obtain ⟨s1, s2⟩ := R6.out.set0 (.int .i64 0)
        obtain ⟨s3, s4⟩ := s1.set1 (.slice none 0 0)
        have BE := Lib.hid ((B6.out.setCell (p := ⟨w.heap.size, 0, none⟩) (Nat.le_refl _) (.int .i64 0)).setCell (p := ⟨w.heap.size, 1, none⟩) (Nat.le_refl _) (.slice none 0 0))
        have RE := Lib.hid s3
        clear s1 s2 s3 s4
        go_wp2_with fail
        obtain ⟨w9, hw9⟩ : ∃ z, (w6.setCell ⟨w.heap.size, 0, none⟩ (.int .i64 0)).setCell ⟨w.heap.size, 1, none⟩ (.slice none 0 0) = z := ⟨_, rfl⟩
        rw [hw9] at BE RE ⊢
        have re0 := RE.out.cells.1
        have re1 := RE.out.cells.2
        exact bodyPost_ret (v := .tuple #[.agg #[.int .i64 0, .slice none 0 0], .bool false]) (by simp [results, Tryd.results4, go_sem, re0, re1]) rfl ⟨0, [], false, none, 0, [], rfl, ownM_nil _ _, RES.out, BE.out⟩
      · have TX := Lib.hid (l08Text_w (10 : Int) rows hf (w.heap.size + 1 + 1) Q k d w6 F6.out.cs M6.out.rws hes)
        have HF := Lib.hid hf
        clear hf
        go_wp2_with fail
        refine TX.out.mono ?_
        rintro e w7 ⟨rfl, b7⟩
        have F7 := Lib.hid (F6.out.below b7)
        have R7 := Lib.hid (R6.out.below b7)
        have M7 := Lib.hid (M6.out.below b7)
        have B7 := Lib.hid (bel_trans B6.out b7)
        clear F6 R6 M6 B6 b7 TX
        by_cases ht : frT (10 : Int) rows = s
        · have RES := Lib.hid (Reads.yes HF.out ht)
          have hq : ((frT (10 : Int) rows).toList == s.toList) = true := (Lib.bytes_beq_iff _ _).2 ht
          clear ht
          have h0c := F7.out.cells.1
          have h1c := F7.out.cells.2
          have rc0 := R7.out.cells.1
          have rc1 := R7.out.cells.2
          have rf0 := R7.out.free 0
          have rf1 := R7.out.free 1
          obtain ⟨s1, s2⟩ := R7.out.set0 (.int .i64 (10 : Int))
          obtain ⟨s3, s4⟩ := s1.set1 (.slice Q k d)
          have ME := Lib.hid (((s1.keeps (R7.out.keeps M7.out s2) s4)).mono (b2 := w.heap.size) (by omega))
          have BE := Lib.hid ((B7.out.setCell (p := ⟨w.heap.size, 0, none⟩) (Nat.le_refl _) (.int .i64 (10 : Int))).setCell (p := ⟨w.heap.size, 1, none⟩) (Nat.le_refl _) (.slice Q k d))
          have RE := Lib.hid s3
          clear s1 s2 s3 s4
          go_wp2_with fail
          obtain ⟨w9, hw9⟩ : ∃ z, (w7.setCell ⟨w.heap.size, 0, none⟩ (.int .i64 (10 : Int))).setCell ⟨w.heap.size, 1, none⟩ (.slice Q k d) = z := ⟨_, rfl⟩
          rw [hw9] at ME BE RE ⊢
          have re0 := RE.out.cells.1
          have re1 := RE.out.cells.2
          exact bodyPost_ret (v := .tuple #[.agg #[.int .i64 (10 : Int), .slice Q k d], .bool true]) (by simp [results, Tryd.results4, go_sem, re0, re1]) rfl ⟨(10 : Int), rows, true, Q, d, vs, by rw [HRL.out], by rw [HRL.out]; exact ME.out, RES.out, BE.out⟩
        · have RES := Lib.hid (RD.out.no (fun _ => ht))
          have hq : ((frT (10 : Int) rows).toList == s.toList) = false := (Lib.bytes_beq_false_iff _ _).2 ht
          clear ht
          have rc0 := R7.out.cells.1
          have rc1 := R7.out.cells.2
          have rf0 := R7.out.free 0
          have rf1 := R7.out.free 1
          obtain ⟨s1, s2⟩ := R7.out.set0 (.int .i64 0)
          obtain ⟨s3, s4⟩ := s1.set1 (.slice none 0 0)
          have BE := Lib.hid ((B7.out.setCell (p := ⟨w.heap.size, 0, none⟩) (Nat.le_refl _) (.int .i64 0)).setCell (p := ⟨w.heap.size, 1, none⟩) (Nat.le_refl _) (.slice none 0 0))
          have RE := Lib.hid s3
          clear s1 s2 s3 s4
          go_wp2_with fail
          obtain ⟨w9, hw9⟩ : ∃ z, (w7.setCell ⟨w.heap.size, 0, none⟩ (.int .i64 0)).setCell ⟨w.heap.size, 1, none⟩ (.slice none 0 0) = z := ⟨_, rfl⟩
          rw [hw9] at BE RE ⊢
          have re0 := RE.out.cells.1
          have re1 := RE.out.cells.2
          exact bodyPost_ret (v := .tuple #[.agg #[.int .i64 0, .slice none 0 0], .bool false]) (by simp [results, Tryd.results4, go_sem, re0, re1]) rfl ⟨0, [], false, none, 0, [], rfl, ownM_nil _ _, RES.out, BE.out⟩
set_option maxHeartbeats 4000000 in
theorem specRead_n (s : ByteArray) (hs : s.size ≤ 1048576) (w : World) (h1 : 0 < s.size) (h48 : ¬ 48 ≤ s[0].toNat) :
    Calls Tryd.prog 4 #[.string s] w (ReadPost s w) := by
  have hc : s.size ≤ 4611686018427387904 := by omega
  have d48 := decide_eq_false (show ¬ (48 : Int) ≤ (s[0].toNat : Int) by omega)
  have hten : ((s.extract 0 2).toList == [49, 48]) = false := by
    cases h : ((s.extract 0 2).toList == [49, 48]) with
    | false => rfl
    | true => have := ten_digit h1 h; omega
  have HD := Lib.hid (show ∀ n es, FrOk n es → frT n (es.map erow) = s → (0 : Int) = n ∧ s.size = 0 + 4 * es.length ∧ (decT n).size = 0 from fun n es ok e => by
    have t2 := head_digit ok e h1
    split at t2 <;> omega)
  by_cases hgt : 1 < s.size
  · have dgt := decide_eq_true (show (1 : Int) < (s.size : Int) by omega)
    go_enter Tryd.func4, Tryd.ntmps4
    go_wp2_with fail
    clear d48 dgt hten
    have b0 := bel_alloc w (.cells #[.int .i64 0, .slice none 0 0] 24)
    have b1 := bel_trans b0 (bel_alloc (w.alloc (.cells #[.int .i64 0, .slice none 0 0] 24)) (.cells #[] 30))
    have b2 := bel_trans b1 (bel_alloc ((w.alloc (.cells #[.int .i64 0, .slice none 0 0] 24)).alloc (.cells #[] 30)) (.cells #[.int .i64 (0 : Int), .slice (some ⟨w.heap.size + 1, 0, none⟩) 0 0] 24))
    have z1 : (w.alloc (.cells #[.int .i64 0, .slice none 0 0] 24)).heap.size = w.heap.size + 1 := by simp
    have z2 : ((w.alloc (.cells #[.int .i64 0, .slice none 0 0] 24)).alloc (.cells #[] 30)).heap.size = w.heap.size + 1 + 1 := by simp
    have M0 := (ownM_lit (w.alloc (.cells #[.int .i64 0, .slice none 0 0] 24))).below (bel_alloc _ (.cells #[.int .i64 (0 : Int), .slice (some ⟨w.heap.size + 1, 0, none⟩) 0 0] 24))
    have F0 := FO.new ((w.alloc (.cells #[.int .i64 0, .slice none 0 0] 24)).alloc (.cells #[] 30)) (.int .i64 (0 : Int)) (.slice (some ⟨w.heap.size + 1, 0, none⟩) 0 0)
    have R0 := ((FO.new w (.int .i64 0) (.slice none 0 0)).below (bel_alloc _ (.cells #[] 30))).below (bel_alloc _ (.cells #[.int .i64 (0 : Int), .slice (some ⟨w.heap.size + 1, 0, none⟩) 0 0] 24))
    rw [z1] at M0
    rw [z2] at F0
    have BB := Lib.hid b2
    have MM := Lib.hid M0
    have FF := Lib.hid F0
    have RR := Lib.hid R0
    clear b0 b1 b2 M0 F0 R0 z1 z2
    go_loopw [5] (fun t wr => ∃ (k p : Nat) (Q : Option Addr) (d : Nat) (vs : List Value) (rows : List (List Int)), t = .int .i64 p ∧ p = 0 + 4 * k ∧ p ≤ s.size ∧ rows.length = k ∧ FO wr (w.heap.size + 1 + 1) (.int .i64 (0 : Int)) (.slice Q k d) ∧ FO wr w.heap.size (.int .i64 0) (.slice none 0 0) ∧ OwnM wr (w.heap.size + 1) Q k d vs rows ∧ (∀ n es, FrOk n es → frT n (es.map erow) = s → rows = (es.take k).map erow) ∧ Below w.heap.size w wr) (fun t _ => s.size - (intOf t).toNat)
    case atStart => exact ⟨0, 0, _, 0, [], [], rfl, rfl, by omega, rfl, FF.out, RR.out, MM.out, fun _ _ _ _ => rfl, BB.out⟩
    case round =>
      obtain ⟨k, p, Q, d, vs, rows, rfl, hpk, hp, hrl, hF, hR, hM, hP, hB⟩ := hrel
      have FR := Lib.hid hF
      have RR := Lib.hid hR
      have MR := Lib.hid hM
      have PR := Lib.hid hP
      have BR := Lib.hid hB
      have szr := hB.size
      have ltF := hF.lt
      have ltR := hR.lt
      have HPK := Lib.hid hpk
      clear hF hR hM hP hB BB MM FF hpk
      by_cases hlt : p + 3 < s.size
      · have hda := decide_eq_true (show ((p : Int) + 3) < (s.size : Int) by omega)
        have q1 := FR.out.cells.2
        have j10 : (0 : Int) ≤ (p : Int) + 1 := by omega
        have j11 : (p : Int) + 1 < (s.size : Int) := by omega
        have j30 : (0 : Int) ≤ (p : Int) + 3 := by omega
        have j31 : (p : Int) + 3 < (s.size : Int) := by omega
        have n1 : p + 1 < s.size := by omega
        have n3 : p + 3 < s.size := by omega
        have t1 : ((p : Int) + 1).toNat = p + 1 := by omega
        have t3 : ((p : Int) + 3).toNat = p + 3 := by omega
        obtain ⟨c1, hc1⟩ : ∃ c : UInt8, s[p + 1]'n1 = c := ⟨_, rfl⟩
        obtain ⟨c3, hc3⟩ : ∃ c : UInt8, s[p + 3]'n3 = c := ⟨_, rfl⟩
        have PF := Lib.hid (show ∀ n es, FrOk n es → frT n (es.map erow) = s → rows ++ [[(c1.toNat : Int) - 48, (c3.toNat : Int) - 48]] = (es.take (k + 1)).map erow from fun n es ok e => by
          obtain ⟨e1, e2, e3⟩ := HD.out n es ok e
          have hpk := HPK.out
          obtain ⟨q, hq⟩ : ∃ q, es[k]? = some q := ⟨_, List.getElem?_eq_getElem (by omega)⟩
          have n9 := ok.nine q (List.mem_of_getElem? hq)
          obtain ⟨a1, a3⟩ := frT_at ok hq
          rw [e, e3, show 0 + 4 * k + 1 = p + 1 by omega, at_list n1, hc1] at a1
          rw [e, e3, show 0 + 4 * k + 3 = p + 3 by omega, at_list n3, hc3] at a3
          injection a1 with a1
          injection a3 with a3
          rw [PR.out n es ok e, take_snoc' hq, List.map_append, a1, a3]
          have u1 : (UInt8.ofNat (48 + q.1)).toNat = 48 + q.1 := by simp; omega
          have u3 : (UInt8.ofNat (48 + q.2)).toNat = 48 + q.2 := by simp; omega
          rw [u1, u3]
          simp [erow]
          omega)
        have ew1 : IntKind.i64.wrap ((p : Int) + 1) = (p : Int) + 1 := IntWalk.i64_in _ (by omega)
        have ew3 : IntKind.i64.wrap ((p : Int) + 3) = (p : Int) + 3 := IntWalk.i64_in _ (by omega)
        have cb1 := UInt8.toNat_lt c1
        have cb3 := UInt8.toNat_lt c3
        have wc1 : IntKind.i64.wrap (c1.toNat : Int) = (c1.toNat : Int) := IntWalk.i64_in _ (by omega)
        have wc3 : IntKind.i64.wrap (c3.toNat : Int) = (c3.toNat : Int) := IntWalk.i64_in _ (by omega)
        have wd1 : IntKind.i64.wrap ((c1.toNat : Int) - 48) = (c1.toNat : Int) - 48 := IntWalk.i64_in _ (by omega)
        have wd3 : IntKind.i64.wrap ((c3.toNat : Int) - 48) = (c3.toNat : Int) - 48 := IntWalk.i64_in _ (by omega)
        go_wp2_with fail
        refine wp_region_noPanic ?_
        refine wp_region_R (inFirst (fun W => W.cell? ⟨w.heap.size + 1 + 1, 1, none⟩ = some (.slice Q k d)) 17) (by kernel_rfl) ?_
        have SS := Lib.hid (fun (W : World) (hW : Below wr.heap.size wr W) => (show W.cell? ⟨w.heap.size + 1 + 1, 1, none⟩ = some (.slice Q k d) from (FR.out.below hW).cells.2))
        have hS := SS.out wr.drew ⟨rfl, rfl, rfl, Nat.le_refl _, fun _ _ => rfl⟩
        refine anyR_take (i := 0) (.pointer (some ⟨w.heap.size + 1 + 1, 1, none⟩)) rfl (by kernel_rfl) (by kernel_rfl) (by kernel_rfl) (by kernel_rfl) (fun _ _ _ h => h) (by assumption) ⟨by rfl, ?_⟩ ?_
        · intro W hW
          go_simp
        try simp only [Act.put, List.setIfInBounds_toArray, List.set_cons_zero, List.set_cons_succ, List.getElem_toArray, List.getElem_cons_zero, List.getElem_cons_succ]
        refine anyR_take (i := 1) (.slice Q k d) rfl (by kernel_rfl) (by kernel_rfl) (by kernel_rfl) (by kernel_rfl) (fun _ _ _ h => h) (by assumption) ⟨by rfl, ?_⟩ ?_
        · intro W hW
          go_simp
        try simp only [Act.put, List.setIfInBounds_toArray, List.set_cons_zero, List.set_cons_succ, List.getElem_toArray, List.getElem_cons_zero, List.getElem_cons_succ]
        refine anyR_take (i := 2) (.string s) rfl (by kernel_rfl) (by kernel_rfl) (by kernel_rfl) (by kernel_rfl) (fun _ _ _ h => h) (by assumption) ⟨by rfl, ?_⟩ ?_
        · intro W hW
          go_simp
        try simp only [Act.put, List.setIfInBounds_toArray, List.set_cons_zero, List.set_cons_succ, List.getElem_toArray, List.getElem_cons_zero, List.getElem_cons_succ]
        refine anyR_take (i := 3) (.int .i64 p) rfl (by kernel_rfl) (by kernel_rfl) (by kernel_rfl) (by kernel_rfl) (fun _ _ _ h => h) (by assumption) ⟨by rfl, ?_⟩ ?_
        · intro W hW
          go_simp
        try simp only [Act.put, List.setIfInBounds_toArray, List.set_cons_zero, List.set_cons_succ, List.getElem_toArray, List.getElem_cons_zero, List.getElem_cons_succ]
        refine anyR_take (i := 4) (.int .i64 ((p : Int) + 1)) rfl (by kernel_rfl) (by kernel_rfl) (by kernel_rfl) (by kernel_rfl) (fun _ _ _ h => h) (by assumption) ⟨by rfl, ?_⟩ ?_
        · intro W hW
          go_simp
        try simp only [Act.put, List.setIfInBounds_toArray, List.set_cons_zero, List.set_cons_succ, List.getElem_toArray, List.getElem_cons_zero, List.getElem_cons_succ]
        refine anyR_take (i := 5) (.int .u8 (c1.toNat : Int)) rfl (by kernel_rfl) (by kernel_rfl) (by kernel_rfl) (by kernel_rfl) (fun _ _ _ h => h) (by assumption) ⟨by rfl, ?_⟩ ?_
        · intro W hW
          go_simp
        try simp only [Act.put, List.setIfInBounds_toArray, List.set_cons_zero, List.set_cons_succ, List.getElem_toArray, List.getElem_cons_zero, List.getElem_cons_succ]
        refine anyR_take (i := 6) (.int .i64 (c1.toNat : Int)) rfl (by kernel_rfl) (by kernel_rfl) (by kernel_rfl) (by kernel_rfl) (fun _ _ _ h => h) (by assumption) ⟨by rfl, ?_⟩ ?_
        · intro W hW
          go_simp
        try simp only [Act.put, List.setIfInBounds_toArray, List.set_cons_zero, List.set_cons_succ, List.getElem_toArray, List.getElem_cons_zero, List.getElem_cons_succ]
        refine anyR_take (i := 7) (.int .i64 ((c1.toNat : Int) - 48)) rfl (by kernel_rfl) (by kernel_rfl) (by kernel_rfl) (by kernel_rfl) (fun _ _ _ h => h) (by assumption) ⟨by rfl, ?_⟩ ?_
        · intro W hW
          go_simp
        try simp only [Act.put, List.setIfInBounds_toArray, List.set_cons_zero, List.set_cons_succ, List.getElem_toArray, List.getElem_cons_zero, List.getElem_cons_succ]
        refine anyR_take (i := 8) (.string s) rfl (by kernel_rfl) (by kernel_rfl) (by kernel_rfl) (by kernel_rfl) (fun _ _ _ h => h) (by assumption) ⟨by rfl, ?_⟩ ?_
        · intro W hW
          go_simp
        try simp only [Act.put, List.setIfInBounds_toArray, List.set_cons_zero, List.set_cons_succ, List.getElem_toArray, List.getElem_cons_zero, List.getElem_cons_succ]
        refine anyR_take (i := 9) (.int .i64 p) rfl (by kernel_rfl) (by kernel_rfl) (by kernel_rfl) (by kernel_rfl) (fun _ _ _ h => h) (by assumption) ⟨by rfl, ?_⟩ ?_
        · intro W hW
          go_simp
        try simp only [Act.put, List.setIfInBounds_toArray, List.set_cons_zero, List.set_cons_succ, List.getElem_toArray, List.getElem_cons_zero, List.getElem_cons_succ]
        refine anyR_take (i := 10) (.int .i64 ((p : Int) + 3)) rfl (by kernel_rfl) (by kernel_rfl) (by kernel_rfl) (by kernel_rfl) (fun _ _ _ h => h) (by assumption) ⟨by rfl, ?_⟩ ?_
        · intro W hW
          go_simp
        try simp only [Act.put, List.setIfInBounds_toArray, List.set_cons_zero, List.set_cons_succ, List.getElem_toArray, List.getElem_cons_zero, List.getElem_cons_succ]
        refine anyR_take (i := 11) (.int .u8 (c3.toNat : Int)) rfl (by kernel_rfl) (by kernel_rfl) (by kernel_rfl) (by kernel_rfl) (fun _ _ _ h => h) (by assumption) ⟨by rfl, ?_⟩ ?_
        · intro W hW
          go_simp
        try simp only [Act.put, List.setIfInBounds_toArray, List.set_cons_zero, List.set_cons_succ, List.getElem_toArray, List.getElem_cons_zero, List.getElem_cons_succ]
        refine anyR_take (i := 12) (.int .i64 (c3.toNat : Int)) rfl (by kernel_rfl) (by kernel_rfl) (by kernel_rfl) (by kernel_rfl) (fun _ _ _ h => h) (by assumption) ⟨by rfl, ?_⟩ ?_
        · intro W hW
          go_simp
        try simp only [Act.put, List.setIfInBounds_toArray, List.set_cons_zero, List.set_cons_succ, List.getElem_toArray, List.getElem_cons_zero, List.getElem_cons_succ]
        refine anyR_take (i := 13) (.int .i64 ((c3.toNat : Int) - 48)) rfl (by kernel_rfl) (by kernel_rfl) (by kernel_rfl) (by kernel_rfl) (fun _ _ _ h => h) (by assumption) ⟨by rfl, ?_⟩ ?_
        · intro W hW
          go_simp
        try simp only [Act.put, List.setIfInBounds_toArray, List.set_cons_zero, List.set_cons_succ, List.getElem_toArray, List.getElem_cons_zero, List.getElem_cons_succ]
        refine anyR_one (i := 14) (by kernel_rfl) rfl ?_
        intro K hK
        go_simp
        have ba := bel_alloc wr (.cells #[.int .i64 ((c1.toNat : Int) - 48), .int .i64 ((c3.toNat : Int) - 48)] 2)
        have ua : Below wr.heap.size wr (wr.alloc (.cells #[.int .i64 ((c1.toNat : Int) - 48), .int .i64 ((c3.toNat : Int) - 48)] 2)).drew := bel_trans ba ⟨rfl, rfl, rfl, Nat.le_refl _, fun _ _ => rfl⟩
        have hT := SS.out _ ua
        refine hK.out _ _ (fun _ => hT) ?_
        clear hK K
        try simp only [Act.put, List.setIfInBounds_toArray, List.set_cons_zero, List.set_cons_succ, List.getElem_toArray, List.getElem_cons_zero, List.getElem_cons_succ]
        clear hS
        have ROW0 := (show OwnI (wr.alloc (.cells #[.int .i64 ((c1.toNat : Int) - 48), .int .i64 ((c3.toNat : Int) - 48)] 2)) wr.heap.size (some ⟨wr.heap.size, 0, none⟩) 2 2 [(c1.toNat : Int) - 48, (c3.toNat : Int) - 48] from ownI_row wr [(c1.toNat : Int) - 48, (c3.toNat : Int) - 48] (by intro z hz; simp at hz; rcases hz with rfl | rfl <;> exact WalkArith.wf_i64 (by omega)) (by simp)).below (w' := (wr.alloc (.cells #[.int .i64 ((c1.toNat : Int) - 48), .int .i64 ((c3.toNat : Int) - 48)] 2)).drew) ⟨rfl, rfl, rfl, Nat.le_refl _, fun _ _ => rfl⟩
        have zb : (wr.alloc (.cells #[.int .i64 ((c1.toNat : Int) - 48), .int .i64 ((c3.toNat : Int) - 48)] 2)).drew.heap.size = wr.heap.size + 1 := by show (wr.alloc (.cells #[.int .i64 ((c1.toNat : Int) - 48), .int .i64 ((c3.toNat : Int) - 48)] 2)).heap.size = _; simp
        obtain ⟨wb, hwb⟩ : ∃ z, (wr.alloc (.cells #[.int .i64 ((c1.toNat : Int) - 48), .int .i64 ((c3.toNat : Int) - 48)] 2)).drew = z := ⟨_, rfl⟩
        rw [hwb] at ua hT ROW0 zb ⊢
        clear hwb ba
        refine anyR_one (i := 15) (by kernel_rfl) rfl ?_
        intro K hK
        go_simp
        have bc := bel_alloc wb (.cells #[.slice (some ⟨wr.heap.size, 0, none⟩) 2 2] 30)
        have uc := bel_trans ua bc
        have hT := SS.out _ uc
        refine hK.out _ _ (fun _ => hT) ?_
        clear hK K
        try simp only [Act.put, List.setIfInBounds_toArray, List.set_cons_zero, List.set_cons_succ, List.getElem_toArray, List.getElem_cons_zero, List.getElem_cons_succ]
        clear hT
        have PC := Lib.hid (MR.out.below uc)
        have RC := Lib.hid (ROW0.below bc)
        have FC := Lib.hid (FR.out.below uc)
        have RRC := Lib.hid (RR.out.below uc)
        have BC := Lib.hid (bel_trans BR.out uc)
        have HCN := Lib.hid (show (wb.alloc (.cells #[.slice (some ⟨wr.heap.size, 0, none⟩) 2 2] 30)).cell? ⟨wr.heap.size + 1, 0, none⟩ = some (.slice (some ⟨wr.heap.size, 0, none⟩) 2 2) from by have := (Cs.new wb [.slice (some ⟨wr.heap.size, 0, none⟩) 2 2] 30).cell 0 rfl; rwa [zb] at this)
        have AP := Lib.hid (apart_new (base := 0) (vs := vs) (fun v hv g' hg' => (MR.out.blocks v hv g' hg').2) RC.out)
        have RM := Lib.hid (RC.out.mono (b2 := w.heap.size + 1) (by omega))
        have loC : w.heap.size + 1 ≤ (wb.alloc (.cells #[.slice (some ⟨wr.heap.size, 0, none⟩) 2 2] 30)).heap.size := by have := uc.size; omega
        obtain ⟨wc, hwc⟩ : ∃ z, wb.alloc (.cells #[.slice (some ⟨wr.heap.size, 0, none⟩) 2 2] 30) = z := ⟨_, rfl⟩
        rw [hwc] at PC RC FC RRC BC HCN RM loC ⊢
        clear ua bc uc hwc ROW0 RC
        have hes : k ≤ 1099511627776 := by have := HPK.out; omega
        refine anyR_one (i := 16) (by kernel_rfl) rfl ?_
        intro K hK
        refine step_app_row _ (by rfl) _ _ (by rfl) (w.heap.size + 1) Q k d vs rows (by rfl) PC.out (some ⟨wr.heap.size, 0, none⟩) 2 2 [(c1.toNat : Int) - 48, (c3.toNat : Int) - 48] RM.out AP.out (wr.heap.size + 1) (by rfl) HCN.out hes loC ?_
        intro g8 c8 w8 p1 p2 p3
        have M8 := Lib.hid p1
        have F8 := Lib.hid (FC.out.keepM PC.out p2)
        have R8 := Lib.hid (RRC.out.keepM PC.out p2)
        have B8 := Lib.hid (BC.out.grown p2 (by omega) (fun x hx => by have := (PC.out.block x hx).1; omega))
        have cx := F8.out.cells.2
        have fx := F8.out.free 1
        refine hK.out _ _ (fun _ => cx) ?_
        clear hK K
        try simp only [Act.put, List.setIfInBounds_toArray, List.set_cons_zero, List.set_cons_succ, List.getElem_toArray, List.getElem_cons_zero, List.getElem_cons_succ]
        have hS := cx
        clear p1 p2 p3
        refine anyR_one (i := 17) (by kernel_rfl) rfl ?_
        intro K hK
        go_simp
        refine hK.out _ _ (fun h => absurd h (by decide)) ?_
        clear hK K
        try simp only [Act.put, List.setIfInBounds_toArray, List.set_cons_zero, List.set_cons_succ, List.getElem_toArray, List.getElem_cons_zero, List.getElem_cons_succ]
        refine anyR_one (i := 18) (by kernel_rfl) rfl ?_
        intro K hK
        go_simp
        refine hK.out _ _ (fun h => absurd h (by decide)) ?_
        clear hK K
        try simp only [Act.put, List.setIfInBounds_toArray, List.set_cons_zero, List.set_cons_succ, List.getElem_toArray, List.getElem_cons_zero, List.getElem_cons_succ]
        refine anyR_done (by kernel_rfl) ?_ _
        refine NoPanic.normal ?_
        clear hS cx fx
        obtain ⟨st1, st2⟩ := F8.out.set1 (.slice (some ⟨g8, 0, none⟩) (k + 1) c8)
        have FE := Lib.hid st1
        have RE := Lib.hid (R8.out.far st2 (by omega))
        have ME := Lib.hid (F8.out.keeps M8.out st2)
        have BE := Lib.hid (B8.out.grown st2 (by have := B8.out.size; omega) (fun x hx => by injection hx with hx; omega))
        have hpk := HPK.out
        clear st1 st2
        go_wp2_with fail
        go_roundw
        case rel => exact ⟨k + 1, p + 4, some ⟨g8, 0, none⟩, c8, _, rows ++ [[(c1.toNat : Int) - 48, (c3.toNat : Int) - 48]], by go_num, by omega, by omega, by simp [hrl], FE.out, RE.out, ME.out, PF.out, BE.out⟩
        case measure => simp [intOf]; omega
      · have hda := decide_eq_false (show ¬ ((p : Int) + 3) < (s.size : Int) by omega)
        have CS := Lib.hid FR.out.cs
        have QM := Lib.hid MR.out.rws
        have HRL := Lib.hid hrl
        have RD := Lib.hid (show Reads s (0 : Int) rows from fun n es ok e => by
          obtain ⟨e1, e2, e3⟩ := HD.out n es ok e
          have hpk := HPK.out
          refine ⟨e1, ?_⟩
          rw [PR.out n es ok e, List.take_of_length_le (by omega)])
        have hes : k ≤ 1048576 := by have := HPK.out; omega
        go_wp2_with fail
        refine (l08Is_any (0 : Int) rows (w.heap.size + 1 + 1) Q k d wr CS.out QM.out).mono ?_
        rintro e w6 ⟨rfl, b6⟩
        have F6 := Lib.hid (FR.out.below b6)
        have R6 := Lib.hid (RR.out.below b6)
        have M6 := Lib.hid (MR.out.below b6)
        have B6 := Lib.hid (bel_trans BR.out b6)
        clear FR RR MR BR b6 CS QM
        cases hf : frB (0 : Int) rows
        · have RES := Lib.hid (RD.out.no (fun h => by rw [hf] at h; cases h))
          clear hf
          have rc0 := R6.out.cells.1
          have rc1 := R6.out.cells.2
          have rf0 := R6.out.free 0
          have rf1 := R6.out.free 1
          obtain ⟨s1, s2⟩ := R6.out.set0 (.int .i64 0)
          obtain ⟨s3, s4⟩ := s1.set1 (.slice none 0 0)
          have BE := Lib.hid ((B6.out.setCell (p := ⟨w.heap.size, 0, none⟩) (Nat.le_refl _) (.int .i64 0)).setCell (p := ⟨w.heap.size, 1, none⟩) (Nat.le_refl _) (.slice none 0 0))
          have RE := Lib.hid s3
          clear s1 s2 s3 s4
          go_wp2_with fail
          obtain ⟨w9, hw9⟩ : ∃ z, (w6.setCell ⟨w.heap.size, 0, none⟩ (.int .i64 0)).setCell ⟨w.heap.size, 1, none⟩ (.slice none 0 0) = z := ⟨_, rfl⟩
          rw [hw9] at BE RE ⊢
          have re0 := RE.out.cells.1
          have re1 := RE.out.cells.2
          exact bodyPost_ret (v := .tuple #[.agg #[.int .i64 0, .slice none 0 0], .bool false]) (by simp [results, Tryd.results4, go_sem, re0, re1]) rfl ⟨0, [], false, none, 0, [], rfl, ownM_nil _ _, RES.out, BE.out⟩
        · have TX := Lib.hid (l08Text_w (0 : Int) rows hf (w.heap.size + 1 + 1) Q k d w6 F6.out.cs M6.out.rws hes)
          have HF := Lib.hid hf
          clear hf
          go_wp2_with fail
          refine TX.out.mono ?_
          rintro e w7 ⟨rfl, b7⟩
          have F7 := Lib.hid (F6.out.below b7)
          have R7 := Lib.hid (R6.out.below b7)
          have M7 := Lib.hid (M6.out.below b7)
          have B7 := Lib.hid (bel_trans B6.out b7)
          clear F6 R6 M6 B6 b7 TX
          by_cases ht : frT (0 : Int) rows = s
          · have RES := Lib.hid (Reads.yes HF.out ht)
            have hq : ((frT (0 : Int) rows).toList == s.toList) = true := (Lib.bytes_beq_iff _ _).2 ht
            clear ht
            have h0c := F7.out.cells.1
            have h1c := F7.out.cells.2
            have rc0 := R7.out.cells.1
            have rc1 := R7.out.cells.2
            have rf0 := R7.out.free 0
            have rf1 := R7.out.free 1
            obtain ⟨s1, s2⟩ := R7.out.set0 (.int .i64 (0 : Int))
            obtain ⟨s3, s4⟩ := s1.set1 (.slice Q k d)
            have ME := Lib.hid (((s1.keeps (R7.out.keeps M7.out s2) s4)).mono (b2 := w.heap.size) (by omega))
            have BE := Lib.hid ((B7.out.setCell (p := ⟨w.heap.size, 0, none⟩) (Nat.le_refl _) (.int .i64 (0 : Int))).setCell (p := ⟨w.heap.size, 1, none⟩) (Nat.le_refl _) (.slice Q k d))
            have RE := Lib.hid s3
            clear s1 s2 s3 s4
            go_wp2_with fail
            obtain ⟨w9, hw9⟩ : ∃ z, (w7.setCell ⟨w.heap.size, 0, none⟩ (.int .i64 (0 : Int))).setCell ⟨w.heap.size, 1, none⟩ (.slice Q k d) = z := ⟨_, rfl⟩
            rw [hw9] at ME BE RE ⊢
            have re0 := RE.out.cells.1
            have re1 := RE.out.cells.2
            exact bodyPost_ret (v := .tuple #[.agg #[.int .i64 (0 : Int), .slice Q k d], .bool true]) (by simp [results, Tryd.results4, go_sem, re0, re1]) rfl ⟨(0 : Int), rows, true, Q, d, vs, by rw [HRL.out], by rw [HRL.out]; exact ME.out, RES.out, BE.out⟩
          · have RES := Lib.hid (RD.out.no (fun _ => ht))
            have hq : ((frT (0 : Int) rows).toList == s.toList) = false := (Lib.bytes_beq_false_iff _ _).2 ht
            clear ht
            have rc0 := R7.out.cells.1
            have rc1 := R7.out.cells.2
            have rf0 := R7.out.free 0
            have rf1 := R7.out.free 1
            obtain ⟨s1, s2⟩ := R7.out.set0 (.int .i64 0)
            obtain ⟨s3, s4⟩ := s1.set1 (.slice none 0 0)
            have BE := Lib.hid ((B7.out.setCell (p := ⟨w.heap.size, 0, none⟩) (Nat.le_refl _) (.int .i64 0)).setCell (p := ⟨w.heap.size, 1, none⟩) (Nat.le_refl _) (.slice none 0 0))
            have RE := Lib.hid s3
            clear s1 s2 s3 s4
            go_wp2_with fail
            obtain ⟨w9, hw9⟩ : ∃ z, (w7.setCell ⟨w.heap.size, 0, none⟩ (.int .i64 0)).setCell ⟨w.heap.size, 1, none⟩ (.slice none 0 0) = z := ⟨_, rfl⟩
            rw [hw9] at BE RE ⊢
            have re0 := RE.out.cells.1
            have re1 := RE.out.cells.2
            exact bodyPost_ret (v := .tuple #[.agg #[.int .i64 0, .slice none 0 0], .bool false]) (by simp [results, Tryd.results4, go_sem, re0, re1]) rfl ⟨0, [], false, none, 0, [], rfl, ownM_nil _ _, RES.out, BE.out⟩
  · have dgt := decide_eq_false (show ¬ (1 : Int) < (s.size : Int) by omega)
    go_enter Tryd.func4, Tryd.ntmps4
    go_wp2_with fail
    clear d48 dgt hten
    have b0 := bel_alloc w (.cells #[.int .i64 0, .slice none 0 0] 24)
    have b1 := bel_trans b0 (bel_alloc (w.alloc (.cells #[.int .i64 0, .slice none 0 0] 24)) (.cells #[] 30))
    have b2 := bel_trans b1 (bel_alloc ((w.alloc (.cells #[.int .i64 0, .slice none 0 0] 24)).alloc (.cells #[] 30)) (.cells #[.int .i64 (0 : Int), .slice (some ⟨w.heap.size + 1, 0, none⟩) 0 0] 24))
    have z1 : (w.alloc (.cells #[.int .i64 0, .slice none 0 0] 24)).heap.size = w.heap.size + 1 := by simp
    have z2 : ((w.alloc (.cells #[.int .i64 0, .slice none 0 0] 24)).alloc (.cells #[] 30)).heap.size = w.heap.size + 1 + 1 := by simp
    have M0 := (ownM_lit (w.alloc (.cells #[.int .i64 0, .slice none 0 0] 24))).below (bel_alloc _ (.cells #[.int .i64 (0 : Int), .slice (some ⟨w.heap.size + 1, 0, none⟩) 0 0] 24))
    have F0 := FO.new ((w.alloc (.cells #[.int .i64 0, .slice none 0 0] 24)).alloc (.cells #[] 30)) (.int .i64 (0 : Int)) (.slice (some ⟨w.heap.size + 1, 0, none⟩) 0 0)
    have R0 := ((FO.new w (.int .i64 0) (.slice none 0 0)).below (bel_alloc _ (.cells #[] 30))).below (bel_alloc _ (.cells #[.int .i64 (0 : Int), .slice (some ⟨w.heap.size + 1, 0, none⟩) 0 0] 24))
    rw [z1] at M0
    rw [z2] at F0
    have BB := Lib.hid b2
    have MM := Lib.hid M0
    have FF := Lib.hid F0
    have RR := Lib.hid R0
    clear b0 b1 b2 M0 F0 R0 z1 z2
    go_loopw [5] (fun t wr => ∃ (k p : Nat) (Q : Option Addr) (d : Nat) (vs : List Value) (rows : List (List Int)), t = .int .i64 p ∧ p = 0 + 4 * k ∧ p ≤ s.size ∧ rows.length = k ∧ FO wr (w.heap.size + 1 + 1) (.int .i64 (0 : Int)) (.slice Q k d) ∧ FO wr w.heap.size (.int .i64 0) (.slice none 0 0) ∧ OwnM wr (w.heap.size + 1) Q k d vs rows ∧ (∀ n es, FrOk n es → frT n (es.map erow) = s → rows = (es.take k).map erow) ∧ Below w.heap.size w wr) (fun t _ => s.size - (intOf t).toNat)
    case atStart => exact ⟨0, 0, _, 0, [], [], rfl, rfl, by omega, rfl, FF.out, RR.out, MM.out, fun _ _ _ _ => rfl, BB.out⟩
    case round =>
      obtain ⟨k, p, Q, d, vs, rows, rfl, hpk, hp, hrl, hF, hR, hM, hP, hB⟩ := hrel
      have FR := Lib.hid hF
      have RR := Lib.hid hR
      have MR := Lib.hid hM
      have PR := Lib.hid hP
      have BR := Lib.hid hB
      have szr := hB.size
      have ltF := hF.lt
      have ltR := hR.lt
      have HPK := Lib.hid hpk
      clear hF hR hM hP hB BB MM FF hpk
      by_cases hlt : p + 3 < s.size
      · have hda := decide_eq_true (show ((p : Int) + 3) < (s.size : Int) by omega)
        have q1 := FR.out.cells.2
        have j10 : (0 : Int) ≤ (p : Int) + 1 := by omega
        have j11 : (p : Int) + 1 < (s.size : Int) := by omega
        have j30 : (0 : Int) ≤ (p : Int) + 3 := by omega
        have j31 : (p : Int) + 3 < (s.size : Int) := by omega
        have n1 : p + 1 < s.size := by omega
        have n3 : p + 3 < s.size := by omega
        have t1 : ((p : Int) + 1).toNat = p + 1 := by omega
        have t3 : ((p : Int) + 3).toNat = p + 3 := by omega
        obtain ⟨c1, hc1⟩ : ∃ c : UInt8, s[p + 1]'n1 = c := ⟨_, rfl⟩
        obtain ⟨c3, hc3⟩ : ∃ c : UInt8, s[p + 3]'n3 = c := ⟨_, rfl⟩
        have PF := Lib.hid (show ∀ n es, FrOk n es → frT n (es.map erow) = s → rows ++ [[(c1.toNat : Int) - 48, (c3.toNat : Int) - 48]] = (es.take (k + 1)).map erow from fun n es ok e => by
          obtain ⟨e1, e2, e3⟩ := HD.out n es ok e
          have hpk := HPK.out
          obtain ⟨q, hq⟩ : ∃ q, es[k]? = some q := ⟨_, List.getElem?_eq_getElem (by omega)⟩
          have n9 := ok.nine q (List.mem_of_getElem? hq)
          obtain ⟨a1, a3⟩ := frT_at ok hq
          rw [e, e3, show 0 + 4 * k + 1 = p + 1 by omega, at_list n1, hc1] at a1
          rw [e, e3, show 0 + 4 * k + 3 = p + 3 by omega, at_list n3, hc3] at a3
          injection a1 with a1
          injection a3 with a3
          rw [PR.out n es ok e, take_snoc' hq, List.map_append, a1, a3]
          have u1 : (UInt8.ofNat (48 + q.1)).toNat = 48 + q.1 := by simp; omega
          have u3 : (UInt8.ofNat (48 + q.2)).toNat = 48 + q.2 := by simp; omega
          rw [u1, u3]
          simp [erow]
          omega)
        have ew1 : IntKind.i64.wrap ((p : Int) + 1) = (p : Int) + 1 := IntWalk.i64_in _ (by omega)
        have ew3 : IntKind.i64.wrap ((p : Int) + 3) = (p : Int) + 3 := IntWalk.i64_in _ (by omega)
        have cb1 := UInt8.toNat_lt c1
        have cb3 := UInt8.toNat_lt c3
        have wc1 : IntKind.i64.wrap (c1.toNat : Int) = (c1.toNat : Int) := IntWalk.i64_in _ (by omega)
        have wc3 : IntKind.i64.wrap (c3.toNat : Int) = (c3.toNat : Int) := IntWalk.i64_in _ (by omega)
        have wd1 : IntKind.i64.wrap ((c1.toNat : Int) - 48) = (c1.toNat : Int) - 48 := IntWalk.i64_in _ (by omega)
        have wd3 : IntKind.i64.wrap ((c3.toNat : Int) - 48) = (c3.toNat : Int) - 48 := IntWalk.i64_in _ (by omega)
        go_wp2_with fail
        refine wp_region_noPanic ?_
        refine wp_region_R (inFirst (fun W => W.cell? ⟨w.heap.size + 1 + 1, 1, none⟩ = some (.slice Q k d)) 17) (by kernel_rfl) ?_
        have SS := Lib.hid (fun (W : World) (hW : Below wr.heap.size wr W) => (show W.cell? ⟨w.heap.size + 1 + 1, 1, none⟩ = some (.slice Q k d) from (FR.out.below hW).cells.2))
        have hS := SS.out wr.drew ⟨rfl, rfl, rfl, Nat.le_refl _, fun _ _ => rfl⟩
        refine anyR_take (i := 0) (.pointer (some ⟨w.heap.size + 1 + 1, 1, none⟩)) rfl (by kernel_rfl) (by kernel_rfl) (by kernel_rfl) (by kernel_rfl) (fun _ _ _ h => h) (by assumption) ⟨by rfl, ?_⟩ ?_
        · intro W hW
          go_simp
        try simp only [Act.put, List.setIfInBounds_toArray, List.set_cons_zero, List.set_cons_succ, List.getElem_toArray, List.getElem_cons_zero, List.getElem_cons_succ]
        refine anyR_take (i := 1) (.slice Q k d) rfl (by kernel_rfl) (by kernel_rfl) (by kernel_rfl) (by kernel_rfl) (fun _ _ _ h => h) (by assumption) ⟨by rfl, ?_⟩ ?_
        · intro W hW
          go_simp
        try simp only [Act.put, List.setIfInBounds_toArray, List.set_cons_zero, List.set_cons_succ, List.getElem_toArray, List.getElem_cons_zero, List.getElem_cons_succ]
        refine anyR_take (i := 2) (.string s) rfl (by kernel_rfl) (by kernel_rfl) (by kernel_rfl) (by kernel_rfl) (fun _ _ _ h => h) (by assumption) ⟨by rfl, ?_⟩ ?_
        · intro W hW
          go_simp
        try simp only [Act.put, List.setIfInBounds_toArray, List.set_cons_zero, List.set_cons_succ, List.getElem_toArray, List.getElem_cons_zero, List.getElem_cons_succ]
        refine anyR_take (i := 3) (.int .i64 p) rfl (by kernel_rfl) (by kernel_rfl) (by kernel_rfl) (by kernel_rfl) (fun _ _ _ h => h) (by assumption) ⟨by rfl, ?_⟩ ?_
        · intro W hW
          go_simp
        try simp only [Act.put, List.setIfInBounds_toArray, List.set_cons_zero, List.set_cons_succ, List.getElem_toArray, List.getElem_cons_zero, List.getElem_cons_succ]
        refine anyR_take (i := 4) (.int .i64 ((p : Int) + 1)) rfl (by kernel_rfl) (by kernel_rfl) (by kernel_rfl) (by kernel_rfl) (fun _ _ _ h => h) (by assumption) ⟨by rfl, ?_⟩ ?_
        · intro W hW
          go_simp
        try simp only [Act.put, List.setIfInBounds_toArray, List.set_cons_zero, List.set_cons_succ, List.getElem_toArray, List.getElem_cons_zero, List.getElem_cons_succ]
        refine anyR_take (i := 5) (.int .u8 (c1.toNat : Int)) rfl (by kernel_rfl) (by kernel_rfl) (by kernel_rfl) (by kernel_rfl) (fun _ _ _ h => h) (by assumption) ⟨by rfl, ?_⟩ ?_
        · intro W hW
          go_simp
        try simp only [Act.put, List.setIfInBounds_toArray, List.set_cons_zero, List.set_cons_succ, List.getElem_toArray, List.getElem_cons_zero, List.getElem_cons_succ]
        refine anyR_take (i := 6) (.int .i64 (c1.toNat : Int)) rfl (by kernel_rfl) (by kernel_rfl) (by kernel_rfl) (by kernel_rfl) (fun _ _ _ h => h) (by assumption) ⟨by rfl, ?_⟩ ?_
        · intro W hW
          go_simp
        try simp only [Act.put, List.setIfInBounds_toArray, List.set_cons_zero, List.set_cons_succ, List.getElem_toArray, List.getElem_cons_zero, List.getElem_cons_succ]
        refine anyR_take (i := 7) (.int .i64 ((c1.toNat : Int) - 48)) rfl (by kernel_rfl) (by kernel_rfl) (by kernel_rfl) (by kernel_rfl) (fun _ _ _ h => h) (by assumption) ⟨by rfl, ?_⟩ ?_
        · intro W hW
          go_simp
        try simp only [Act.put, List.setIfInBounds_toArray, List.set_cons_zero, List.set_cons_succ, List.getElem_toArray, List.getElem_cons_zero, List.getElem_cons_succ]
        refine anyR_take (i := 8) (.string s) rfl (by kernel_rfl) (by kernel_rfl) (by kernel_rfl) (by kernel_rfl) (fun _ _ _ h => h) (by assumption) ⟨by rfl, ?_⟩ ?_
        · intro W hW
          go_simp
        try simp only [Act.put, List.setIfInBounds_toArray, List.set_cons_zero, List.set_cons_succ, List.getElem_toArray, List.getElem_cons_zero, List.getElem_cons_succ]
        refine anyR_take (i := 9) (.int .i64 p) rfl (by kernel_rfl) (by kernel_rfl) (by kernel_rfl) (by kernel_rfl) (fun _ _ _ h => h) (by assumption) ⟨by rfl, ?_⟩ ?_
        · intro W hW
          go_simp
        try simp only [Act.put, List.setIfInBounds_toArray, List.set_cons_zero, List.set_cons_succ, List.getElem_toArray, List.getElem_cons_zero, List.getElem_cons_succ]
        refine anyR_take (i := 10) (.int .i64 ((p : Int) + 3)) rfl (by kernel_rfl) (by kernel_rfl) (by kernel_rfl) (by kernel_rfl) (fun _ _ _ h => h) (by assumption) ⟨by rfl, ?_⟩ ?_
        · intro W hW
          go_simp
        try simp only [Act.put, List.setIfInBounds_toArray, List.set_cons_zero, List.set_cons_succ, List.getElem_toArray, List.getElem_cons_zero, List.getElem_cons_succ]
        refine anyR_take (i := 11) (.int .u8 (c3.toNat : Int)) rfl (by kernel_rfl) (by kernel_rfl) (by kernel_rfl) (by kernel_rfl) (fun _ _ _ h => h) (by assumption) ⟨by rfl, ?_⟩ ?_
        · intro W hW
          go_simp
        try simp only [Act.put, List.setIfInBounds_toArray, List.set_cons_zero, List.set_cons_succ, List.getElem_toArray, List.getElem_cons_zero, List.getElem_cons_succ]
        refine anyR_take (i := 12) (.int .i64 (c3.toNat : Int)) rfl (by kernel_rfl) (by kernel_rfl) (by kernel_rfl) (by kernel_rfl) (fun _ _ _ h => h) (by assumption) ⟨by rfl, ?_⟩ ?_
        · intro W hW
          go_simp
        try simp only [Act.put, List.setIfInBounds_toArray, List.set_cons_zero, List.set_cons_succ, List.getElem_toArray, List.getElem_cons_zero, List.getElem_cons_succ]
        refine anyR_take (i := 13) (.int .i64 ((c3.toNat : Int) - 48)) rfl (by kernel_rfl) (by kernel_rfl) (by kernel_rfl) (by kernel_rfl) (fun _ _ _ h => h) (by assumption) ⟨by rfl, ?_⟩ ?_
        · intro W hW
          go_simp
        try simp only [Act.put, List.setIfInBounds_toArray, List.set_cons_zero, List.set_cons_succ, List.getElem_toArray, List.getElem_cons_zero, List.getElem_cons_succ]
        refine anyR_one (i := 14) (by kernel_rfl) rfl ?_
        intro K hK
        go_simp
        have ba := bel_alloc wr (.cells #[.int .i64 ((c1.toNat : Int) - 48), .int .i64 ((c3.toNat : Int) - 48)] 2)
        have ua : Below wr.heap.size wr (wr.alloc (.cells #[.int .i64 ((c1.toNat : Int) - 48), .int .i64 ((c3.toNat : Int) - 48)] 2)).drew := bel_trans ba ⟨rfl, rfl, rfl, Nat.le_refl _, fun _ _ => rfl⟩
        have hT := SS.out _ ua
        refine hK.out _ _ (fun _ => hT) ?_
        clear hK K
        try simp only [Act.put, List.setIfInBounds_toArray, List.set_cons_zero, List.set_cons_succ, List.getElem_toArray, List.getElem_cons_zero, List.getElem_cons_succ]
        clear hS
        have ROW0 := (show OwnI (wr.alloc (.cells #[.int .i64 ((c1.toNat : Int) - 48), .int .i64 ((c3.toNat : Int) - 48)] 2)) wr.heap.size (some ⟨wr.heap.size, 0, none⟩) 2 2 [(c1.toNat : Int) - 48, (c3.toNat : Int) - 48] from ownI_row wr [(c1.toNat : Int) - 48, (c3.toNat : Int) - 48] (by intro z hz; simp at hz; rcases hz with rfl | rfl <;> exact WalkArith.wf_i64 (by omega)) (by simp)).below (w' := (wr.alloc (.cells #[.int .i64 ((c1.toNat : Int) - 48), .int .i64 ((c3.toNat : Int) - 48)] 2)).drew) ⟨rfl, rfl, rfl, Nat.le_refl _, fun _ _ => rfl⟩
        have zb : (wr.alloc (.cells #[.int .i64 ((c1.toNat : Int) - 48), .int .i64 ((c3.toNat : Int) - 48)] 2)).drew.heap.size = wr.heap.size + 1 := by show (wr.alloc (.cells #[.int .i64 ((c1.toNat : Int) - 48), .int .i64 ((c3.toNat : Int) - 48)] 2)).heap.size = _; simp
        obtain ⟨wb, hwb⟩ : ∃ z, (wr.alloc (.cells #[.int .i64 ((c1.toNat : Int) - 48), .int .i64 ((c3.toNat : Int) - 48)] 2)).drew = z := ⟨_, rfl⟩
        rw [hwb] at ua hT ROW0 zb ⊢
        clear hwb ba
        refine anyR_one (i := 15) (by kernel_rfl) rfl ?_
        intro K hK
        go_simp
        have bc := bel_alloc wb (.cells #[.slice (some ⟨wr.heap.size, 0, none⟩) 2 2] 30)
        have uc := bel_trans ua bc
        have hT := SS.out _ uc
        refine hK.out _ _ (fun _ => hT) ?_
        clear hK K
        try simp only [Act.put, List.setIfInBounds_toArray, List.set_cons_zero, List.set_cons_succ, List.getElem_toArray, List.getElem_cons_zero, List.getElem_cons_succ]
        clear hT
        have PC := Lib.hid (MR.out.below uc)
        have RC := Lib.hid (ROW0.below bc)
        have FC := Lib.hid (FR.out.below uc)
        have RRC := Lib.hid (RR.out.below uc)
        have BC := Lib.hid (bel_trans BR.out uc)
        have HCN := Lib.hid (show (wb.alloc (.cells #[.slice (some ⟨wr.heap.size, 0, none⟩) 2 2] 30)).cell? ⟨wr.heap.size + 1, 0, none⟩ = some (.slice (some ⟨wr.heap.size, 0, none⟩) 2 2) from by have := (Cs.new wb [.slice (some ⟨wr.heap.size, 0, none⟩) 2 2] 30).cell 0 rfl; rwa [zb] at this)
        have AP := Lib.hid (apart_new (base := 0) (vs := vs) (fun v hv g' hg' => (MR.out.blocks v hv g' hg').2) RC.out)
        have RM := Lib.hid (RC.out.mono (b2 := w.heap.size + 1) (by omega))
        have loC : w.heap.size + 1 ≤ (wb.alloc (.cells #[.slice (some ⟨wr.heap.size, 0, none⟩) 2 2] 30)).heap.size := by have := uc.size; omega
        obtain ⟨wc, hwc⟩ : ∃ z, wb.alloc (.cells #[.slice (some ⟨wr.heap.size, 0, none⟩) 2 2] 30) = z := ⟨_, rfl⟩
        rw [hwc] at PC RC FC RRC BC HCN RM loC ⊢
        clear ua bc uc hwc ROW0 RC
        have hes : k ≤ 1099511627776 := by have := HPK.out; omega
        refine anyR_one (i := 16) (by kernel_rfl) rfl ?_
        intro K hK
        refine step_app_row _ (by rfl) _ _ (by rfl) (w.heap.size + 1) Q k d vs rows (by rfl) PC.out (some ⟨wr.heap.size, 0, none⟩) 2 2 [(c1.toNat : Int) - 48, (c3.toNat : Int) - 48] RM.out AP.out (wr.heap.size + 1) (by rfl) HCN.out hes loC ?_
        intro g8 c8 w8 p1 p2 p3
        have M8 := Lib.hid p1
        have F8 := Lib.hid (FC.out.keepM PC.out p2)
        have R8 := Lib.hid (RRC.out.keepM PC.out p2)
        have B8 := Lib.hid (BC.out.grown p2 (by omega) (fun x hx => by have := (PC.out.block x hx).1; omega))
        have cx := F8.out.cells.2
        have fx := F8.out.free 1
        refine hK.out _ _ (fun _ => cx) ?_
        clear hK K
        try simp only [Act.put, List.setIfInBounds_toArray, List.set_cons_zero, List.set_cons_succ, List.getElem_toArray, List.getElem_cons_zero, List.getElem_cons_succ]
        have hS := cx
        clear p1 p2 p3
        refine anyR_one (i := 17) (by kernel_rfl) rfl ?_
        intro K hK
        go_simp
        refine hK.out _ _ (fun h => absurd h (by decide)) ?_
        clear hK K
        try simp only [Act.put, List.setIfInBounds_toArray, List.set_cons_zero, List.set_cons_succ, List.getElem_toArray, List.getElem_cons_zero, List.getElem_cons_succ]
        refine anyR_one (i := 18) (by kernel_rfl) rfl ?_
        intro K hK
        go_simp
        refine hK.out _ _ (fun h => absurd h (by decide)) ?_
        clear hK K
        try simp only [Act.put, List.setIfInBounds_toArray, List.set_cons_zero, List.set_cons_succ, List.getElem_toArray, List.getElem_cons_zero, List.getElem_cons_succ]
        refine anyR_done (by kernel_rfl) ?_ _
        refine NoPanic.normal ?_
        clear hS cx fx
        obtain ⟨st1, st2⟩ := F8.out.set1 (.slice (some ⟨g8, 0, none⟩) (k + 1) c8)
        have FE := Lib.hid st1
        have RE := Lib.hid (R8.out.far st2 (by omega))
        have ME := Lib.hid (F8.out.keeps M8.out st2)
        have BE := Lib.hid (B8.out.grown st2 (by have := B8.out.size; omega) (fun x hx => by injection hx with hx; omega))
        have hpk := HPK.out
        clear st1 st2
        go_wp2_with fail
        go_roundw
        case rel => exact ⟨k + 1, p + 4, some ⟨g8, 0, none⟩, c8, _, rows ++ [[(c1.toNat : Int) - 48, (c3.toNat : Int) - 48]], by go_num, by omega, by omega, by simp [hrl], FE.out, RE.out, ME.out, PF.out, BE.out⟩
        case measure => simp [intOf]; omega
      · have hda := decide_eq_false (show ¬ ((p : Int) + 3) < (s.size : Int) by omega)
        have CS := Lib.hid FR.out.cs
        have QM := Lib.hid MR.out.rws
        have HRL := Lib.hid hrl
        have RD := Lib.hid (show Reads s (0 : Int) rows from fun n es ok e => by
          obtain ⟨e1, e2, e3⟩ := HD.out n es ok e
          have hpk := HPK.out
          refine ⟨e1, ?_⟩
          rw [PR.out n es ok e, List.take_of_length_le (by omega)])
        have hes : k ≤ 1048576 := by have := HPK.out; omega
        go_wp2_with fail
        refine (l08Is_any (0 : Int) rows (w.heap.size + 1 + 1) Q k d wr CS.out QM.out).mono ?_
        rintro e w6 ⟨rfl, b6⟩
        have F6 := Lib.hid (FR.out.below b6)
        have R6 := Lib.hid (RR.out.below b6)
        have M6 := Lib.hid (MR.out.below b6)
        have B6 := Lib.hid (bel_trans BR.out b6)
        clear FR RR MR BR b6 CS QM
        cases hf : frB (0 : Int) rows
        · have RES := Lib.hid (RD.out.no (fun h => by rw [hf] at h; cases h))
          clear hf
          have rc0 := R6.out.cells.1
          have rc1 := R6.out.cells.2
          have rf0 := R6.out.free 0
          have rf1 := R6.out.free 1
          obtain ⟨s1, s2⟩ := R6.out.set0 (.int .i64 0)
          obtain ⟨s3, s4⟩ := s1.set1 (.slice none 0 0)
          have BE := Lib.hid ((B6.out.setCell (p := ⟨w.heap.size, 0, none⟩) (Nat.le_refl _) (.int .i64 0)).setCell (p := ⟨w.heap.size, 1, none⟩) (Nat.le_refl _) (.slice none 0 0))
          have RE := Lib.hid s3
          clear s1 s2 s3 s4
          go_wp2_with fail
          obtain ⟨w9, hw9⟩ : ∃ z, (w6.setCell ⟨w.heap.size, 0, none⟩ (.int .i64 0)).setCell ⟨w.heap.size, 1, none⟩ (.slice none 0 0) = z := ⟨_, rfl⟩
          rw [hw9] at BE RE ⊢
          have re0 := RE.out.cells.1
          have re1 := RE.out.cells.2
          exact bodyPost_ret (v := .tuple #[.agg #[.int .i64 0, .slice none 0 0], .bool false]) (by simp [results, Tryd.results4, go_sem, re0, re1]) rfl ⟨0, [], false, none, 0, [], rfl, ownM_nil _ _, RES.out, BE.out⟩
        · have TX := Lib.hid (l08Text_w (0 : Int) rows hf (w.heap.size + 1 + 1) Q k d w6 F6.out.cs M6.out.rws hes)
          have HF := Lib.hid hf
          clear hf
          go_wp2_with fail
          refine TX.out.mono ?_
          rintro e w7 ⟨rfl, b7⟩
          have F7 := Lib.hid (F6.out.below b7)
          have R7 := Lib.hid (R6.out.below b7)
          have M7 := Lib.hid (M6.out.below b7)
          have B7 := Lib.hid (bel_trans B6.out b7)
          clear F6 R6 M6 B6 b7 TX
          by_cases ht : frT (0 : Int) rows = s
          · have RES := Lib.hid (Reads.yes HF.out ht)
            have hq : ((frT (0 : Int) rows).toList == s.toList) = true := (Lib.bytes_beq_iff _ _).2 ht
            clear ht
            have h0c := F7.out.cells.1
            have h1c := F7.out.cells.2
            have rc0 := R7.out.cells.1
            have rc1 := R7.out.cells.2
            have rf0 := R7.out.free 0
            have rf1 := R7.out.free 1
            obtain ⟨s1, s2⟩ := R7.out.set0 (.int .i64 (0 : Int))
            obtain ⟨s3, s4⟩ := s1.set1 (.slice Q k d)
            have ME := Lib.hid (((s1.keeps (R7.out.keeps M7.out s2) s4)).mono (b2 := w.heap.size) (by omega))
            have BE := Lib.hid ((B7.out.setCell (p := ⟨w.heap.size, 0, none⟩) (Nat.le_refl _) (.int .i64 (0 : Int))).setCell (p := ⟨w.heap.size, 1, none⟩) (Nat.le_refl _) (.slice Q k d))
            have RE := Lib.hid s3
            clear s1 s2 s3 s4
            go_wp2_with fail
            obtain ⟨w9, hw9⟩ : ∃ z, (w7.setCell ⟨w.heap.size, 0, none⟩ (.int .i64 (0 : Int))).setCell ⟨w.heap.size, 1, none⟩ (.slice Q k d) = z := ⟨_, rfl⟩
            rw [hw9] at ME BE RE ⊢
            have re0 := RE.out.cells.1
            have re1 := RE.out.cells.2
            exact bodyPost_ret (v := .tuple #[.agg #[.int .i64 (0 : Int), .slice Q k d], .bool true]) (by simp [results, Tryd.results4, go_sem, re0, re1]) rfl ⟨(0 : Int), rows, true, Q, d, vs, by rw [HRL.out], by rw [HRL.out]; exact ME.out, RES.out, BE.out⟩
          · have RES := Lib.hid (RD.out.no (fun _ => ht))
            have hq : ((frT (0 : Int) rows).toList == s.toList) = false := (Lib.bytes_beq_false_iff _ _).2 ht
            clear ht
            have rc0 := R7.out.cells.1
            have rc1 := R7.out.cells.2
            have rf0 := R7.out.free 0
            have rf1 := R7.out.free 1
            obtain ⟨s1, s2⟩ := R7.out.set0 (.int .i64 0)
            obtain ⟨s3, s4⟩ := s1.set1 (.slice none 0 0)
            have BE := Lib.hid ((B7.out.setCell (p := ⟨w.heap.size, 0, none⟩) (Nat.le_refl _) (.int .i64 0)).setCell (p := ⟨w.heap.size, 1, none⟩) (Nat.le_refl _) (.slice none 0 0))
            have RE := Lib.hid s3
            clear s1 s2 s3 s4
            go_wp2_with fail
            obtain ⟨w9, hw9⟩ : ∃ z, (w7.setCell ⟨w.heap.size, 0, none⟩ (.int .i64 0)).setCell ⟨w.heap.size, 1, none⟩ (.slice none 0 0) = z := ⟨_, rfl⟩
            rw [hw9] at BE RE ⊢
            have re0 := RE.out.cells.1
            have re1 := RE.out.cells.2
            exact bodyPost_ret (v := .tuple #[.agg #[.int .i64 0, .slice none 0 0], .bool false]) (by simp [results, Tryd.results4, go_sem, re0, re1]) rfl ⟨0, [], false, none, 0, [], rfl, ownM_nil _ _, RES.out, BE.out⟩
set_option maxHeartbeats 4000000 in
theorem specRead_m (s : ByteArray) (hs : s.size ≤ 1048576) (w : World) (h1 : 0 < s.size) (h48 : 48 ≤ s[0].toNat) (h57 : ¬ s[0].toNat ≤ 57) :
    Calls Tryd.prog 4 #[.string s] w (ReadPost s w) := by
  have hc : s.size ≤ 4611686018427387904 := by omega
  have d48 := decide_eq_true (show (48 : Int) ≤ (s[0].toNat : Int) by omega)
  have d57 := decide_eq_false (show ¬ (s[0].toNat : Int) ≤ 57 by omega)
  have hten : ((s.extract 0 2).toList == [49, 48]) = false := by
    cases h : ((s.extract 0 2).toList == [49, 48]) with
    | false => rfl
    | true => have := ten_digit h1 h; omega
  have HD := Lib.hid (show ∀ n es, FrOk n es → frT n (es.map erow) = s → (0 : Int) = n ∧ s.size = 0 + 4 * es.length ∧ (decT n).size = 0 from fun n es ok e => by
    have t2 := head_digit ok e h1
    have := ok.n10
    split at t2 <;> omega)
  by_cases hgt : 1 < s.size
  · have dgt := decide_eq_true (show (1 : Int) < (s.size : Int) by omega)
    go_enter Tryd.func4, Tryd.ntmps4
    go_wp2_with fail
    clear d48 d57 dgt hten
    have b0 := bel_alloc w (.cells #[.int .i64 0, .slice none 0 0] 24)
    have b1 := bel_trans b0 (bel_alloc (w.alloc (.cells #[.int .i64 0, .slice none 0 0] 24)) (.cells #[] 30))
    have b2 := bel_trans b1 (bel_alloc ((w.alloc (.cells #[.int .i64 0, .slice none 0 0] 24)).alloc (.cells #[] 30)) (.cells #[.int .i64 (0 : Int), .slice (some ⟨w.heap.size + 1, 0, none⟩) 0 0] 24))
    have z1 : (w.alloc (.cells #[.int .i64 0, .slice none 0 0] 24)).heap.size = w.heap.size + 1 := by simp
    have z2 : ((w.alloc (.cells #[.int .i64 0, .slice none 0 0] 24)).alloc (.cells #[] 30)).heap.size = w.heap.size + 1 + 1 := by simp
    have M0 := (ownM_lit (w.alloc (.cells #[.int .i64 0, .slice none 0 0] 24))).below (bel_alloc _ (.cells #[.int .i64 (0 : Int), .slice (some ⟨w.heap.size + 1, 0, none⟩) 0 0] 24))
    have F0 := FO.new ((w.alloc (.cells #[.int .i64 0, .slice none 0 0] 24)).alloc (.cells #[] 30)) (.int .i64 (0 : Int)) (.slice (some ⟨w.heap.size + 1, 0, none⟩) 0 0)
    have R0 := ((FO.new w (.int .i64 0) (.slice none 0 0)).below (bel_alloc _ (.cells #[] 30))).below (bel_alloc _ (.cells #[.int .i64 (0 : Int), .slice (some ⟨w.heap.size + 1, 0, none⟩) 0 0] 24))
    rw [z1] at M0
    rw [z2] at F0
    have BB := Lib.hid b2
    have MM := Lib.hid M0
    have FF := Lib.hid F0
    have RR := Lib.hid R0
    clear b0 b1 b2 M0 F0 R0 z1 z2
    go_loopw [5] (fun t wr => ∃ (k p : Nat) (Q : Option Addr) (d : Nat) (vs : List Value) (rows : List (List Int)), t = .int .i64 p ∧ p = 0 + 4 * k ∧ p ≤ s.size ∧ rows.length = k ∧ FO wr (w.heap.size + 1 + 1) (.int .i64 (0 : Int)) (.slice Q k d) ∧ FO wr w.heap.size (.int .i64 0) (.slice none 0 0) ∧ OwnM wr (w.heap.size + 1) Q k d vs rows ∧ (∀ n es, FrOk n es → frT n (es.map erow) = s → rows = (es.take k).map erow) ∧ Below w.heap.size w wr) (fun t _ => s.size - (intOf t).toNat)
    case atStart => exact ⟨0, 0, _, 0, [], [], rfl, rfl, by omega, rfl, FF.out, RR.out, MM.out, fun _ _ _ _ => rfl, BB.out⟩
    case round =>
      obtain ⟨k, p, Q, d, vs, rows, rfl, hpk, hp, hrl, hF, hR, hM, hP, hB⟩ := hrel
      have FR := Lib.hid hF
      have RR := Lib.hid hR
      have MR := Lib.hid hM
      have PR := Lib.hid hP
      have BR := Lib.hid hB
      have szr := hB.size
      have ltF := hF.lt
      have ltR := hR.lt
      have HPK := Lib.hid hpk
      clear hF hR hM hP hB BB MM FF hpk
      by_cases hlt : p + 3 < s.size
      · have hda := decide_eq_true (show ((p : Int) + 3) < (s.size : Int) by omega)
        have q1 := FR.out.cells.2
        have j10 : (0 : Int) ≤ (p : Int) + 1 := by omega
        have j11 : (p : Int) + 1 < (s.size : Int) := by omega
        have j30 : (0 : Int) ≤ (p : Int) + 3 := by omega
        have j31 : (p : Int) + 3 < (s.size : Int) := by omega
        have n1 : p + 1 < s.size := by omega
        have n3 : p + 3 < s.size := by omega
        have t1 : ((p : Int) + 1).toNat = p + 1 := by omega
        have t3 : ((p : Int) + 3).toNat = p + 3 := by omega
        obtain ⟨c1, hc1⟩ : ∃ c : UInt8, s[p + 1]'n1 = c := ⟨_, rfl⟩
        obtain ⟨c3, hc3⟩ : ∃ c : UInt8, s[p + 3]'n3 = c := ⟨_, rfl⟩
        have PF := Lib.hid (show ∀ n es, FrOk n es → frT n (es.map erow) = s → rows ++ [[(c1.toNat : Int) - 48, (c3.toNat : Int) - 48]] = (es.take (k + 1)).map erow from fun n es ok e => by
          obtain ⟨e1, e2, e3⟩ := HD.out n es ok e
          have hpk := HPK.out
          obtain ⟨q, hq⟩ : ∃ q, es[k]? = some q := ⟨_, List.getElem?_eq_getElem (by omega)⟩
          have n9 := ok.nine q (List.mem_of_getElem? hq)
          obtain ⟨a1, a3⟩ := frT_at ok hq
          rw [e, e3, show 0 + 4 * k + 1 = p + 1 by omega, at_list n1, hc1] at a1
          rw [e, e3, show 0 + 4 * k + 3 = p + 3 by omega, at_list n3, hc3] at a3
          injection a1 with a1
          injection a3 with a3
          rw [PR.out n es ok e, take_snoc' hq, List.map_append, a1, a3]
          have u1 : (UInt8.ofNat (48 + q.1)).toNat = 48 + q.1 := by simp; omega
          have u3 : (UInt8.ofNat (48 + q.2)).toNat = 48 + q.2 := by simp; omega
          rw [u1, u3]
          simp [erow]
          omega)
        have ew1 : IntKind.i64.wrap ((p : Int) + 1) = (p : Int) + 1 := IntWalk.i64_in _ (by omega)
        have ew3 : IntKind.i64.wrap ((p : Int) + 3) = (p : Int) + 3 := IntWalk.i64_in _ (by omega)
        have cb1 := UInt8.toNat_lt c1
        have cb3 := UInt8.toNat_lt c3
        have wc1 : IntKind.i64.wrap (c1.toNat : Int) = (c1.toNat : Int) := IntWalk.i64_in _ (by omega)
        have wc3 : IntKind.i64.wrap (c3.toNat : Int) = (c3.toNat : Int) := IntWalk.i64_in _ (by omega)
        have wd1 : IntKind.i64.wrap ((c1.toNat : Int) - 48) = (c1.toNat : Int) - 48 := IntWalk.i64_in _ (by omega)
        have wd3 : IntKind.i64.wrap ((c3.toNat : Int) - 48) = (c3.toNat : Int) - 48 := IntWalk.i64_in _ (by omega)
        go_wp2_with fail
        refine wp_region_noPanic ?_
        refine wp_region_R (inFirst (fun W => W.cell? ⟨w.heap.size + 1 + 1, 1, none⟩ = some (.slice Q k d)) 17) (by kernel_rfl) ?_
        have SS := Lib.hid (fun (W : World) (hW : Below wr.heap.size wr W) => (show W.cell? ⟨w.heap.size + 1 + 1, 1, none⟩ = some (.slice Q k d) from (FR.out.below hW).cells.2))
        have hS := SS.out wr.drew ⟨rfl, rfl, rfl, Nat.le_refl _, fun _ _ => rfl⟩
        refine anyR_take (i := 0) (.pointer (some ⟨w.heap.size + 1 + 1, 1, none⟩)) rfl (by kernel_rfl) (by kernel_rfl) (by kernel_rfl) (by kernel_rfl) (fun _ _ _ h => h) (by assumption) ⟨by rfl, ?_⟩ ?_
        · intro W hW
          go_simp
        try simp only [Act.put, List.setIfInBounds_toArray, List.set_cons_zero, List.set_cons_succ, List.getElem_toArray, List.getElem_cons_zero, List.getElem_cons_succ]
        refine anyR_take (i := 1) (.slice Q k d) rfl (by kernel_rfl) (by kernel_rfl) (by kernel_rfl) (by kernel_rfl) (fun _ _ _ h => h) (by assumption) ⟨by rfl, ?_⟩ ?_
        · intro W hW
          go_simp
        try simp only [Act.put, List.setIfInBounds_toArray, List.set_cons_zero, List.set_cons_succ, List.getElem_toArray, List.getElem_cons_zero, List.getElem_cons_succ]
        refine anyR_take (i := 2) (.string s) rfl (by kernel_rfl) (by kernel_rfl) (by kernel_rfl) (by kernel_rfl) (fun _ _ _ h => h) (by assumption) ⟨by rfl, ?_⟩ ?_
        · intro W hW
          go_simp
        try simp only [Act.put, List.setIfInBounds_toArray, List.set_cons_zero, List.set_cons_succ, List.getElem_toArray, List.getElem_cons_zero, List.getElem_cons_succ]
        refine anyR_take (i := 3) (.int .i64 p) rfl (by kernel_rfl) (by kernel_rfl) (by kernel_rfl) (by kernel_rfl) (fun _ _ _ h => h) (by assumption) ⟨by rfl, ?_⟩ ?_
        · intro W hW
          go_simp
        try simp only [Act.put, List.setIfInBounds_toArray, List.set_cons_zero, List.set_cons_succ, List.getElem_toArray, List.getElem_cons_zero, List.getElem_cons_succ]
        refine anyR_take (i := 4) (.int .i64 ((p : Int) + 1)) rfl (by kernel_rfl) (by kernel_rfl) (by kernel_rfl) (by kernel_rfl) (fun _ _ _ h => h) (by assumption) ⟨by rfl, ?_⟩ ?_
        · intro W hW
          go_simp
        try simp only [Act.put, List.setIfInBounds_toArray, List.set_cons_zero, List.set_cons_succ, List.getElem_toArray, List.getElem_cons_zero, List.getElem_cons_succ]
        refine anyR_take (i := 5) (.int .u8 (c1.toNat : Int)) rfl (by kernel_rfl) (by kernel_rfl) (by kernel_rfl) (by kernel_rfl) (fun _ _ _ h => h) (by assumption) ⟨by rfl, ?_⟩ ?_
        · intro W hW
          go_simp
        try simp only [Act.put, List.setIfInBounds_toArray, List.set_cons_zero, List.set_cons_succ, List.getElem_toArray, List.getElem_cons_zero, List.getElem_cons_succ]
        refine anyR_take (i := 6) (.int .i64 (c1.toNat : Int)) rfl (by kernel_rfl) (by kernel_rfl) (by kernel_rfl) (by kernel_rfl) (fun _ _ _ h => h) (by assumption) ⟨by rfl, ?_⟩ ?_
        · intro W hW
          go_simp
        try simp only [Act.put, List.setIfInBounds_toArray, List.set_cons_zero, List.set_cons_succ, List.getElem_toArray, List.getElem_cons_zero, List.getElem_cons_succ]
        refine anyR_take (i := 7) (.int .i64 ((c1.toNat : Int) - 48)) rfl (by kernel_rfl) (by kernel_rfl) (by kernel_rfl) (by kernel_rfl) (fun _ _ _ h => h) (by assumption) ⟨by rfl, ?_⟩ ?_
        · intro W hW
          go_simp
        try simp only [Act.put, List.setIfInBounds_toArray, List.set_cons_zero, List.set_cons_succ, List.getElem_toArray, List.getElem_cons_zero, List.getElem_cons_succ]
        refine anyR_take (i := 8) (.string s) rfl (by kernel_rfl) (by kernel_rfl) (by kernel_rfl) (by kernel_rfl) (fun _ _ _ h => h) (by assumption) ⟨by rfl, ?_⟩ ?_
        · intro W hW
          go_simp
        try simp only [Act.put, List.setIfInBounds_toArray, List.set_cons_zero, List.set_cons_succ, List.getElem_toArray, List.getElem_cons_zero, List.getElem_cons_succ]
        refine anyR_take (i := 9) (.int .i64 p) rfl (by kernel_rfl) (by kernel_rfl) (by kernel_rfl) (by kernel_rfl) (fun _ _ _ h => h) (by assumption) ⟨by rfl, ?_⟩ ?_
        · intro W hW
          go_simp
        try simp only [Act.put, List.setIfInBounds_toArray, List.set_cons_zero, List.set_cons_succ, List.getElem_toArray, List.getElem_cons_zero, List.getElem_cons_succ]
        refine anyR_take (i := 10) (.int .i64 ((p : Int) + 3)) rfl (by kernel_rfl) (by kernel_rfl) (by kernel_rfl) (by kernel_rfl) (fun _ _ _ h => h) (by assumption) ⟨by rfl, ?_⟩ ?_
        · intro W hW
          go_simp
        try simp only [Act.put, List.setIfInBounds_toArray, List.set_cons_zero, List.set_cons_succ, List.getElem_toArray, List.getElem_cons_zero, List.getElem_cons_succ]
        refine anyR_take (i := 11) (.int .u8 (c3.toNat : Int)) rfl (by kernel_rfl) (by kernel_rfl) (by kernel_rfl) (by kernel_rfl) (fun _ _ _ h => h) (by assumption) ⟨by rfl, ?_⟩ ?_
        · intro W hW
          go_simp
        try simp only [Act.put, List.setIfInBounds_toArray, List.set_cons_zero, List.set_cons_succ, List.getElem_toArray, List.getElem_cons_zero, List.getElem_cons_succ]
        refine anyR_take (i := 12) (.int .i64 (c3.toNat : Int)) rfl (by kernel_rfl) (by kernel_rfl) (by kernel_rfl) (by kernel_rfl) (fun _ _ _ h => h) (by assumption) ⟨by rfl, ?_⟩ ?_
        · intro W hW
          go_simp
        try simp only [Act.put, List.setIfInBounds_toArray, List.set_cons_zero, List.set_cons_succ, List.getElem_toArray, List.getElem_cons_zero, List.getElem_cons_succ]
        refine anyR_take (i := 13) (.int .i64 ((c3.toNat : Int) - 48)) rfl (by kernel_rfl) (by kernel_rfl) (by kernel_rfl) (by kernel_rfl) (fun _ _ _ h => h) (by assumption) ⟨by rfl, ?_⟩ ?_
        · intro W hW
          go_simp
        try simp only [Act.put, List.setIfInBounds_toArray, List.set_cons_zero, List.set_cons_succ, List.getElem_toArray, List.getElem_cons_zero, List.getElem_cons_succ]
        refine anyR_one (i := 14) (by kernel_rfl) rfl ?_
        intro K hK
        go_simp
        have ba := bel_alloc wr (.cells #[.int .i64 ((c1.toNat : Int) - 48), .int .i64 ((c3.toNat : Int) - 48)] 2)
        have ua : Below wr.heap.size wr (wr.alloc (.cells #[.int .i64 ((c1.toNat : Int) - 48), .int .i64 ((c3.toNat : Int) - 48)] 2)).drew := bel_trans ba ⟨rfl, rfl, rfl, Nat.le_refl _, fun _ _ => rfl⟩
        have hT := SS.out _ ua
        refine hK.out _ _ (fun _ => hT) ?_
        clear hK K
        try simp only [Act.put, List.setIfInBounds_toArray, List.set_cons_zero, List.set_cons_succ, List.getElem_toArray, List.getElem_cons_zero, List.getElem_cons_succ]
        clear hS
        have ROW0 := (show OwnI (wr.alloc (.cells #[.int .i64 ((c1.toNat : Int) - 48), .int .i64 ((c3.toNat : Int) - 48)] 2)) wr.heap.size (some ⟨wr.heap.size, 0, none⟩) 2 2 [(c1.toNat : Int) - 48, (c3.toNat : Int) - 48] from ownI_row wr [(c1.toNat : Int) - 48, (c3.toNat : Int) - 48] (by intro z hz; simp at hz; rcases hz with rfl | rfl <;> exact WalkArith.wf_i64 (by omega)) (by simp)).below (w' := (wr.alloc (.cells #[.int .i64 ((c1.toNat : Int) - 48), .int .i64 ((c3.toNat : Int) - 48)] 2)).drew) ⟨rfl, rfl, rfl, Nat.le_refl _, fun _ _ => rfl⟩
        have zb : (wr.alloc (.cells #[.int .i64 ((c1.toNat : Int) - 48), .int .i64 ((c3.toNat : Int) - 48)] 2)).drew.heap.size = wr.heap.size + 1 := by show (wr.alloc (.cells #[.int .i64 ((c1.toNat : Int) - 48), .int .i64 ((c3.toNat : Int) - 48)] 2)).heap.size = _; simp
        obtain ⟨wb, hwb⟩ : ∃ z, (wr.alloc (.cells #[.int .i64 ((c1.toNat : Int) - 48), .int .i64 ((c3.toNat : Int) - 48)] 2)).drew = z := ⟨_, rfl⟩
        rw [hwb] at ua hT ROW0 zb ⊢
        clear hwb ba
        refine anyR_one (i := 15) (by kernel_rfl) rfl ?_
        intro K hK
        go_simp
        have bc := bel_alloc wb (.cells #[.slice (some ⟨wr.heap.size, 0, none⟩) 2 2] 30)
        have uc := bel_trans ua bc
        have hT := SS.out _ uc
        refine hK.out _ _ (fun _ => hT) ?_
        clear hK K
        try simp only [Act.put, List.setIfInBounds_toArray, List.set_cons_zero, List.set_cons_succ, List.getElem_toArray, List.getElem_cons_zero, List.getElem_cons_succ]
        clear hT
        have PC := Lib.hid (MR.out.below uc)
        have RC := Lib.hid (ROW0.below bc)
        have FC := Lib.hid (FR.out.below uc)
        have RRC := Lib.hid (RR.out.below uc)
        have BC := Lib.hid (bel_trans BR.out uc)
        have HCN := Lib.hid (show (wb.alloc (.cells #[.slice (some ⟨wr.heap.size, 0, none⟩) 2 2] 30)).cell? ⟨wr.heap.size + 1, 0, none⟩ = some (.slice (some ⟨wr.heap.size, 0, none⟩) 2 2) from by have := (Cs.new wb [.slice (some ⟨wr.heap.size, 0, none⟩) 2 2] 30).cell 0 rfl; rwa [zb] at this)
        have AP := Lib.hid (apart_new (base := 0) (vs := vs) (fun v hv g' hg' => (MR.out.blocks v hv g' hg').2) RC.out)
        have RM := Lib.hid (RC.out.mono (b2 := w.heap.size + 1) (by omega))
        have loC : w.heap.size + 1 ≤ (wb.alloc (.cells #[.slice (some ⟨wr.heap.size, 0, none⟩) 2 2] 30)).heap.size := by have := uc.size; omega
        obtain ⟨wc, hwc⟩ : ∃ z, wb.alloc (.cells #[.slice (some ⟨wr.heap.size, 0, none⟩) 2 2] 30) = z := ⟨_, rfl⟩
        rw [hwc] at PC RC FC RRC BC HCN RM loC ⊢
        clear ua bc uc hwc ROW0 RC
        have hes : k ≤ 1099511627776 := by have := HPK.out; omega
        refine anyR_one (i := 16) (by kernel_rfl) rfl ?_
        intro K hK
        refine step_app_row _ (by rfl) _ _ (by rfl) (w.heap.size + 1) Q k d vs rows (by rfl) PC.out (some ⟨wr.heap.size, 0, none⟩) 2 2 [(c1.toNat : Int) - 48, (c3.toNat : Int) - 48] RM.out AP.out (wr.heap.size + 1) (by rfl) HCN.out hes loC ?_
        intro g8 c8 w8 p1 p2 p3
        have M8 := Lib.hid p1
        have F8 := Lib.hid (FC.out.keepM PC.out p2)
        have R8 := Lib.hid (RRC.out.keepM PC.out p2)
        have B8 := Lib.hid (BC.out.grown p2 (by omega) (fun x hx => by have := (PC.out.block x hx).1; omega))
        have cx := F8.out.cells.2
        have fx := F8.out.free 1
        refine hK.out _ _ (fun _ => cx) ?_
        clear hK K
        try simp only [Act.put, List.setIfInBounds_toArray, List.set_cons_zero, List.set_cons_succ, List.getElem_toArray, List.getElem_cons_zero, List.getElem_cons_succ]
        have hS := cx
        clear p1 p2 p3
        refine anyR_one (i := 17) (by kernel_rfl) rfl ?_
        intro K hK
        go_simp
        refine hK.out _ _ (fun h => absurd h (by decide)) ?_
        clear hK K
        try simp only [Act.put, List.setIfInBounds_toArray, List.set_cons_zero, List.set_cons_succ, List.getElem_toArray, List.getElem_cons_zero, List.getElem_cons_succ]
        refine anyR_one (i := 18) (by kernel_rfl) rfl ?_
        intro K hK
        go_simp
        refine hK.out _ _ (fun h => absurd h (by decide)) ?_
        clear hK K
        try simp only [Act.put, List.setIfInBounds_toArray, List.set_cons_zero, List.set_cons_succ, List.getElem_toArray, List.getElem_cons_zero, List.getElem_cons_succ]
        refine anyR_done (by kernel_rfl) ?_ _
        refine NoPanic.normal ?_
        clear hS cx fx
        obtain ⟨st1, st2⟩ := F8.out.set1 (.slice (some ⟨g8, 0, none⟩) (k + 1) c8)
        have FE := Lib.hid st1
        have RE := Lib.hid (R8.out.far st2 (by omega))
        have ME := Lib.hid (F8.out.keeps M8.out st2)
        have BE := Lib.hid (B8.out.grown st2 (by have := B8.out.size; omega) (fun x hx => by injection hx with hx; omega))
        have hpk := HPK.out
        clear st1 st2
        go_wp2_with fail
        go_roundw
        case rel => exact ⟨k + 1, p + 4, some ⟨g8, 0, none⟩, c8, _, rows ++ [[(c1.toNat : Int) - 48, (c3.toNat : Int) - 48]], by go_num, by omega, by omega, by simp [hrl], FE.out, RE.out, ME.out, PF.out, BE.out⟩
        case measure => simp [intOf]; omega
      · have hda := decide_eq_false (show ¬ ((p : Int) + 3) < (s.size : Int) by omega)
        have CS := Lib.hid FR.out.cs
        have QM := Lib.hid MR.out.rws
        have HRL := Lib.hid hrl
        have RD := Lib.hid (show Reads s (0 : Int) rows from fun n es ok e => by
          obtain ⟨e1, e2, e3⟩ := HD.out n es ok e
          have hpk := HPK.out
          refine ⟨e1, ?_⟩
          rw [PR.out n es ok e, List.take_of_length_le (by omega)])
        have hes : k ≤ 1048576 := by have := HPK.out; omega
        go_wp2_with fail
        refine (l08Is_any (0 : Int) rows (w.heap.size + 1 + 1) Q k d wr CS.out QM.out).mono ?_
        rintro e w6 ⟨rfl, b6⟩
        have F6 := Lib.hid (FR.out.below b6)
        have R6 := Lib.hid (RR.out.below b6)
        have M6 := Lib.hid (MR.out.below b6)
        have B6 := Lib.hid (bel_trans BR.out b6)
        clear FR RR MR BR b6 CS QM
        cases hf : frB (0 : Int) rows
        · have RES := Lib.hid (RD.out.no (fun h => by rw [hf] at h; cases h))
          clear hf
          have rc0 := R6.out.cells.1
          have rc1 := R6.out.cells.2
          have rf0 := R6.out.free 0
          have rf1 := R6.out.free 1
          obtain ⟨s1, s2⟩ := R6.out.set0 (.int .i64 0)
          obtain ⟨s3, s4⟩ := s1.set1 (.slice none 0 0)
          have BE := Lib.hid ((B6.out.setCell (p := ⟨w.heap.size, 0, none⟩) (Nat.le_refl _) (.int .i64 0)).setCell (p := ⟨w.heap.size, 1, none⟩) (Nat.le_refl _) (.slice none 0 0))
          have RE := Lib.hid s3
          clear s1 s2 s3 s4
          go_wp2_with fail
          obtain ⟨w9, hw9⟩ : ∃ z, (w6.setCell ⟨w.heap.size, 0, none⟩ (.int .i64 0)).setCell ⟨w.heap.size, 1, none⟩ (.slice none 0 0) = z := ⟨_, rfl⟩
          rw [hw9] at BE RE ⊢
          have re0 := RE.out.cells.1
          have re1 := RE.out.cells.2
          exact bodyPost_ret (v := .tuple #[.agg #[.int .i64 0, .slice none 0 0], .bool false]) (by simp [results, Tryd.results4, go_sem, re0, re1]) rfl ⟨0, [], false, none, 0, [], rfl, ownM_nil _ _, RES.out, BE.out⟩
        · have TX := Lib.hid (l08Text_w (0 : Int) rows hf (w.heap.size + 1 + 1) Q k d w6 F6.out.cs M6.out.rws hes)
          have HF := Lib.hid hf
          clear hf
          go_wp2_with fail
          refine TX.out.mono ?_
          rintro e w7 ⟨rfl, b7⟩
          have F7 := Lib.hid (F6.out.below b7)
          have R7 := Lib.hid (R6.out.below b7)
          have M7 := Lib.hid (M6.out.below b7)
          have B7 := Lib.hid (bel_trans B6.out b7)
          clear F6 R6 M6 B6 b7 TX
          by_cases ht : frT (0 : Int) rows = s
          · have RES := Lib.hid (Reads.yes HF.out ht)
            have hq : ((frT (0 : Int) rows).toList == s.toList) = true := (Lib.bytes_beq_iff _ _).2 ht
            clear ht
            have h0c := F7.out.cells.1
            have h1c := F7.out.cells.2
            have rc0 := R7.out.cells.1
            have rc1 := R7.out.cells.2
            have rf0 := R7.out.free 0
            have rf1 := R7.out.free 1
            obtain ⟨s1, s2⟩ := R7.out.set0 (.int .i64 (0 : Int))
            obtain ⟨s3, s4⟩ := s1.set1 (.slice Q k d)
            have ME := Lib.hid (((s1.keeps (R7.out.keeps M7.out s2) s4)).mono (b2 := w.heap.size) (by omega))
            have BE := Lib.hid ((B7.out.setCell (p := ⟨w.heap.size, 0, none⟩) (Nat.le_refl _) (.int .i64 (0 : Int))).setCell (p := ⟨w.heap.size, 1, none⟩) (Nat.le_refl _) (.slice Q k d))
            have RE := Lib.hid s3
            clear s1 s2 s3 s4
            go_wp2_with fail
            obtain ⟨w9, hw9⟩ : ∃ z, (w7.setCell ⟨w.heap.size, 0, none⟩ (.int .i64 (0 : Int))).setCell ⟨w.heap.size, 1, none⟩ (.slice Q k d) = z := ⟨_, rfl⟩
            rw [hw9] at ME BE RE ⊢
            have re0 := RE.out.cells.1
            have re1 := RE.out.cells.2
            exact bodyPost_ret (v := .tuple #[.agg #[.int .i64 (0 : Int), .slice Q k d], .bool true]) (by simp [results, Tryd.results4, go_sem, re0, re1]) rfl ⟨(0 : Int), rows, true, Q, d, vs, by rw [HRL.out], by rw [HRL.out]; exact ME.out, RES.out, BE.out⟩
          · have RES := Lib.hid (RD.out.no (fun _ => ht))
            have hq : ((frT (0 : Int) rows).toList == s.toList) = false := (Lib.bytes_beq_false_iff _ _).2 ht
            clear ht
            have rc0 := R7.out.cells.1
            have rc1 := R7.out.cells.2
            have rf0 := R7.out.free 0
            have rf1 := R7.out.free 1
            obtain ⟨s1, s2⟩ := R7.out.set0 (.int .i64 0)
            obtain ⟨s3, s4⟩ := s1.set1 (.slice none 0 0)
            have BE := Lib.hid ((B7.out.setCell (p := ⟨w.heap.size, 0, none⟩) (Nat.le_refl _) (.int .i64 0)).setCell (p := ⟨w.heap.size, 1, none⟩) (Nat.le_refl _) (.slice none 0 0))
            have RE := Lib.hid s3
            clear s1 s2 s3 s4
            go_wp2_with fail
            obtain ⟨w9, hw9⟩ : ∃ z, (w7.setCell ⟨w.heap.size, 0, none⟩ (.int .i64 0)).setCell ⟨w.heap.size, 1, none⟩ (.slice none 0 0) = z := ⟨_, rfl⟩
            rw [hw9] at BE RE ⊢
            have re0 := RE.out.cells.1
            have re1 := RE.out.cells.2
            exact bodyPost_ret (v := .tuple #[.agg #[.int .i64 0, .slice none 0 0], .bool false]) (by simp [results, Tryd.results4, go_sem, re0, re1]) rfl ⟨0, [], false, none, 0, [], rfl, ownM_nil _ _, RES.out, BE.out⟩
  · have dgt := decide_eq_false (show ¬ (1 : Int) < (s.size : Int) by omega)
    go_enter Tryd.func4, Tryd.ntmps4
    go_wp2_with fail
    clear d48 d57 dgt hten
    have b0 := bel_alloc w (.cells #[.int .i64 0, .slice none 0 0] 24)
    have b1 := bel_trans b0 (bel_alloc (w.alloc (.cells #[.int .i64 0, .slice none 0 0] 24)) (.cells #[] 30))
    have b2 := bel_trans b1 (bel_alloc ((w.alloc (.cells #[.int .i64 0, .slice none 0 0] 24)).alloc (.cells #[] 30)) (.cells #[.int .i64 (0 : Int), .slice (some ⟨w.heap.size + 1, 0, none⟩) 0 0] 24))
    have z1 : (w.alloc (.cells #[.int .i64 0, .slice none 0 0] 24)).heap.size = w.heap.size + 1 := by simp
    have z2 : ((w.alloc (.cells #[.int .i64 0, .slice none 0 0] 24)).alloc (.cells #[] 30)).heap.size = w.heap.size + 1 + 1 := by simp
    have M0 := (ownM_lit (w.alloc (.cells #[.int .i64 0, .slice none 0 0] 24))).below (bel_alloc _ (.cells #[.int .i64 (0 : Int), .slice (some ⟨w.heap.size + 1, 0, none⟩) 0 0] 24))
    have F0 := FO.new ((w.alloc (.cells #[.int .i64 0, .slice none 0 0] 24)).alloc (.cells #[] 30)) (.int .i64 (0 : Int)) (.slice (some ⟨w.heap.size + 1, 0, none⟩) 0 0)
    have R0 := ((FO.new w (.int .i64 0) (.slice none 0 0)).below (bel_alloc _ (.cells #[] 30))).below (bel_alloc _ (.cells #[.int .i64 (0 : Int), .slice (some ⟨w.heap.size + 1, 0, none⟩) 0 0] 24))
    rw [z1] at M0
    rw [z2] at F0
    have BB := Lib.hid b2
    have MM := Lib.hid M0
    have FF := Lib.hid F0
    have RR := Lib.hid R0
    clear b0 b1 b2 M0 F0 R0 z1 z2
    go_loopw [5] (fun t wr => ∃ (k p : Nat) (Q : Option Addr) (d : Nat) (vs : List Value) (rows : List (List Int)), t = .int .i64 p ∧ p = 0 + 4 * k ∧ p ≤ s.size ∧ rows.length = k ∧ FO wr (w.heap.size + 1 + 1) (.int .i64 (0 : Int)) (.slice Q k d) ∧ FO wr w.heap.size (.int .i64 0) (.slice none 0 0) ∧ OwnM wr (w.heap.size + 1) Q k d vs rows ∧ (∀ n es, FrOk n es → frT n (es.map erow) = s → rows = (es.take k).map erow) ∧ Below w.heap.size w wr) (fun t _ => s.size - (intOf t).toNat)
    case atStart => exact ⟨0, 0, _, 0, [], [], rfl, rfl, by omega, rfl, FF.out, RR.out, MM.out, fun _ _ _ _ => rfl, BB.out⟩
    case round =>
      obtain ⟨k, p, Q, d, vs, rows, rfl, hpk, hp, hrl, hF, hR, hM, hP, hB⟩ := hrel
      have FR := Lib.hid hF
      have RR := Lib.hid hR
      have MR := Lib.hid hM
      have PR := Lib.hid hP
      have BR := Lib.hid hB
      have szr := hB.size
      have ltF := hF.lt
      have ltR := hR.lt
      have HPK := Lib.hid hpk
      clear hF hR hM hP hB BB MM FF hpk
      by_cases hlt : p + 3 < s.size
      · have hda := decide_eq_true (show ((p : Int) + 3) < (s.size : Int) by omega)
        have q1 := FR.out.cells.2
        have j10 : (0 : Int) ≤ (p : Int) + 1 := by omega
        have j11 : (p : Int) + 1 < (s.size : Int) := by omega
        have j30 : (0 : Int) ≤ (p : Int) + 3 := by omega
        have j31 : (p : Int) + 3 < (s.size : Int) := by omega
        have n1 : p + 1 < s.size := by omega
        have n3 : p + 3 < s.size := by omega
        have t1 : ((p : Int) + 1).toNat = p + 1 := by omega
        have t3 : ((p : Int) + 3).toNat = p + 3 := by omega
        obtain ⟨c1, hc1⟩ : ∃ c : UInt8, s[p + 1]'n1 = c := ⟨_, rfl⟩
        obtain ⟨c3, hc3⟩ : ∃ c : UInt8, s[p + 3]'n3 = c := ⟨_, rfl⟩
        have PF := Lib.hid (show ∀ n es, FrOk n es → frT n (es.map erow) = s → rows ++ [[(c1.toNat : Int) - 48, (c3.toNat : Int) - 48]] = (es.take (k + 1)).map erow from fun n es ok e => by
          obtain ⟨e1, e2, e3⟩ := HD.out n es ok e
          have hpk := HPK.out
          obtain ⟨q, hq⟩ : ∃ q, es[k]? = some q := ⟨_, List.getElem?_eq_getElem (by omega)⟩
          have n9 := ok.nine q (List.mem_of_getElem? hq)
          obtain ⟨a1, a3⟩ := frT_at ok hq
          rw [e, e3, show 0 + 4 * k + 1 = p + 1 by omega, at_list n1, hc1] at a1
          rw [e, e3, show 0 + 4 * k + 3 = p + 3 by omega, at_list n3, hc3] at a3
          injection a1 with a1
          injection a3 with a3
          rw [PR.out n es ok e, take_snoc' hq, List.map_append, a1, a3]
          have u1 : (UInt8.ofNat (48 + q.1)).toNat = 48 + q.1 := by simp; omega
          have u3 : (UInt8.ofNat (48 + q.2)).toNat = 48 + q.2 := by simp; omega
          rw [u1, u3]
          simp [erow]
          omega)
        have ew1 : IntKind.i64.wrap ((p : Int) + 1) = (p : Int) + 1 := IntWalk.i64_in _ (by omega)
        have ew3 : IntKind.i64.wrap ((p : Int) + 3) = (p : Int) + 3 := IntWalk.i64_in _ (by omega)
        have cb1 := UInt8.toNat_lt c1
        have cb3 := UInt8.toNat_lt c3
        have wc1 : IntKind.i64.wrap (c1.toNat : Int) = (c1.toNat : Int) := IntWalk.i64_in _ (by omega)
        have wc3 : IntKind.i64.wrap (c3.toNat : Int) = (c3.toNat : Int) := IntWalk.i64_in _ (by omega)
        have wd1 : IntKind.i64.wrap ((c1.toNat : Int) - 48) = (c1.toNat : Int) - 48 := IntWalk.i64_in _ (by omega)
        have wd3 : IntKind.i64.wrap ((c3.toNat : Int) - 48) = (c3.toNat : Int) - 48 := IntWalk.i64_in _ (by omega)
        go_wp2_with fail
        refine wp_region_noPanic ?_
        refine wp_region_R (inFirst (fun W => W.cell? ⟨w.heap.size + 1 + 1, 1, none⟩ = some (.slice Q k d)) 17) (by kernel_rfl) ?_
        have SS := Lib.hid (fun (W : World) (hW : Below wr.heap.size wr W) => (show W.cell? ⟨w.heap.size + 1 + 1, 1, none⟩ = some (.slice Q k d) from (FR.out.below hW).cells.2))
        have hS := SS.out wr.drew ⟨rfl, rfl, rfl, Nat.le_refl _, fun _ _ => rfl⟩
        refine anyR_take (i := 0) (.pointer (some ⟨w.heap.size + 1 + 1, 1, none⟩)) rfl (by kernel_rfl) (by kernel_rfl) (by kernel_rfl) (by kernel_rfl) (fun _ _ _ h => h) (by assumption) ⟨by rfl, ?_⟩ ?_
        · intro W hW
          go_simp
        try simp only [Act.put, List.setIfInBounds_toArray, List.set_cons_zero, List.set_cons_succ, List.getElem_toArray, List.getElem_cons_zero, List.getElem_cons_succ]
        refine anyR_take (i := 1) (.slice Q k d) rfl (by kernel_rfl) (by kernel_rfl) (by kernel_rfl) (by kernel_rfl) (fun _ _ _ h => h) (by assumption) ⟨by rfl, ?_⟩ ?_
        · intro W hW
          go_simp
        try simp only [Act.put, List.setIfInBounds_toArray, List.set_cons_zero, List.set_cons_succ, List.getElem_toArray, List.getElem_cons_zero, List.getElem_cons_succ]
        refine anyR_take (i := 2) (.string s) rfl (by kernel_rfl) (by kernel_rfl) (by kernel_rfl) (by kernel_rfl) (fun _ _ _ h => h) (by assumption) ⟨by rfl, ?_⟩ ?_
        · intro W hW
          go_simp
        try simp only [Act.put, List.setIfInBounds_toArray, List.set_cons_zero, List.set_cons_succ, List.getElem_toArray, List.getElem_cons_zero, List.getElem_cons_succ]
        refine anyR_take (i := 3) (.int .i64 p) rfl (by kernel_rfl) (by kernel_rfl) (by kernel_rfl) (by kernel_rfl) (fun _ _ _ h => h) (by assumption) ⟨by rfl, ?_⟩ ?_
        · intro W hW
          go_simp
        try simp only [Act.put, List.setIfInBounds_toArray, List.set_cons_zero, List.set_cons_succ, List.getElem_toArray, List.getElem_cons_zero, List.getElem_cons_succ]
        refine anyR_take (i := 4) (.int .i64 ((p : Int) + 1)) rfl (by kernel_rfl) (by kernel_rfl) (by kernel_rfl) (by kernel_rfl) (fun _ _ _ h => h) (by assumption) ⟨by rfl, ?_⟩ ?_
        · intro W hW
          go_simp
        try simp only [Act.put, List.setIfInBounds_toArray, List.set_cons_zero, List.set_cons_succ, List.getElem_toArray, List.getElem_cons_zero, List.getElem_cons_succ]
        refine anyR_take (i := 5) (.int .u8 (c1.toNat : Int)) rfl (by kernel_rfl) (by kernel_rfl) (by kernel_rfl) (by kernel_rfl) (fun _ _ _ h => h) (by assumption) ⟨by rfl, ?_⟩ ?_
        · intro W hW
          go_simp
        try simp only [Act.put, List.setIfInBounds_toArray, List.set_cons_zero, List.set_cons_succ, List.getElem_toArray, List.getElem_cons_zero, List.getElem_cons_succ]
        refine anyR_take (i := 6) (.int .i64 (c1.toNat : Int)) rfl (by kernel_rfl) (by kernel_rfl) (by kernel_rfl) (by kernel_rfl) (fun _ _ _ h => h) (by assumption) ⟨by rfl, ?_⟩ ?_
        · intro W hW
          go_simp
        try simp only [Act.put, List.setIfInBounds_toArray, List.set_cons_zero, List.set_cons_succ, List.getElem_toArray, List.getElem_cons_zero, List.getElem_cons_succ]
        refine anyR_take (i := 7) (.int .i64 ((c1.toNat : Int) - 48)) rfl (by kernel_rfl) (by kernel_rfl) (by kernel_rfl) (by kernel_rfl) (fun _ _ _ h => h) (by assumption) ⟨by rfl, ?_⟩ ?_
        · intro W hW
          go_simp
        try simp only [Act.put, List.setIfInBounds_toArray, List.set_cons_zero, List.set_cons_succ, List.getElem_toArray, List.getElem_cons_zero, List.getElem_cons_succ]
        refine anyR_take (i := 8) (.string s) rfl (by kernel_rfl) (by kernel_rfl) (by kernel_rfl) (by kernel_rfl) (fun _ _ _ h => h) (by assumption) ⟨by rfl, ?_⟩ ?_
        · intro W hW
          go_simp
        try simp only [Act.put, List.setIfInBounds_toArray, List.set_cons_zero, List.set_cons_succ, List.getElem_toArray, List.getElem_cons_zero, List.getElem_cons_succ]
        refine anyR_take (i := 9) (.int .i64 p) rfl (by kernel_rfl) (by kernel_rfl) (by kernel_rfl) (by kernel_rfl) (fun _ _ _ h => h) (by assumption) ⟨by rfl, ?_⟩ ?_
        · intro W hW
          go_simp
        try simp only [Act.put, List.setIfInBounds_toArray, List.set_cons_zero, List.set_cons_succ, List.getElem_toArray, List.getElem_cons_zero, List.getElem_cons_succ]
        refine anyR_take (i := 10) (.int .i64 ((p : Int) + 3)) rfl (by kernel_rfl) (by kernel_rfl) (by kernel_rfl) (by kernel_rfl) (fun _ _ _ h => h) (by assumption) ⟨by rfl, ?_⟩ ?_
        · intro W hW
          go_simp
        try simp only [Act.put, List.setIfInBounds_toArray, List.set_cons_zero, List.set_cons_succ, List.getElem_toArray, List.getElem_cons_zero, List.getElem_cons_succ]
        refine anyR_take (i := 11) (.int .u8 (c3.toNat : Int)) rfl (by kernel_rfl) (by kernel_rfl) (by kernel_rfl) (by kernel_rfl) (fun _ _ _ h => h) (by assumption) ⟨by rfl, ?_⟩ ?_
        · intro W hW
          go_simp
        try simp only [Act.put, List.setIfInBounds_toArray, List.set_cons_zero, List.set_cons_succ, List.getElem_toArray, List.getElem_cons_zero, List.getElem_cons_succ]
        refine anyR_take (i := 12) (.int .i64 (c3.toNat : Int)) rfl (by kernel_rfl) (by kernel_rfl) (by kernel_rfl) (by kernel_rfl) (fun _ _ _ h => h) (by assumption) ⟨by rfl, ?_⟩ ?_
        · intro W hW
          go_simp
        try simp only [Act.put, List.setIfInBounds_toArray, List.set_cons_zero, List.set_cons_succ, List.getElem_toArray, List.getElem_cons_zero, List.getElem_cons_succ]
        refine anyR_take (i := 13) (.int .i64 ((c3.toNat : Int) - 48)) rfl (by kernel_rfl) (by kernel_rfl) (by kernel_rfl) (by kernel_rfl) (fun _ _ _ h => h) (by assumption) ⟨by rfl, ?_⟩ ?_
        · intro W hW
          go_simp
        try simp only [Act.put, List.setIfInBounds_toArray, List.set_cons_zero, List.set_cons_succ, List.getElem_toArray, List.getElem_cons_zero, List.getElem_cons_succ]
        refine anyR_one (i := 14) (by kernel_rfl) rfl ?_
        intro K hK
        go_simp
        have ba := bel_alloc wr (.cells #[.int .i64 ((c1.toNat : Int) - 48), .int .i64 ((c3.toNat : Int) - 48)] 2)
        have ua : Below wr.heap.size wr (wr.alloc (.cells #[.int .i64 ((c1.toNat : Int) - 48), .int .i64 ((c3.toNat : Int) - 48)] 2)).drew := bel_trans ba ⟨rfl, rfl, rfl, Nat.le_refl _, fun _ _ => rfl⟩
        have hT := SS.out _ ua
        refine hK.out _ _ (fun _ => hT) ?_
        clear hK K
        try simp only [Act.put, List.setIfInBounds_toArray, List.set_cons_zero, List.set_cons_succ, List.getElem_toArray, List.getElem_cons_zero, List.getElem_cons_succ]
        clear hS
        have ROW0 := (show OwnI (wr.alloc (.cells #[.int .i64 ((c1.toNat : Int) - 48), .int .i64 ((c3.toNat : Int) - 48)] 2)) wr.heap.size (some ⟨wr.heap.size, 0, none⟩) 2 2 [(c1.toNat : Int) - 48, (c3.toNat : Int) - 48] from ownI_row wr [(c1.toNat : Int) - 48, (c3.toNat : Int) - 48] (by intro z hz; simp at hz; rcases hz with rfl | rfl <;> exact WalkArith.wf_i64 (by omega)) (by simp)).below (w' := (wr.alloc (.cells #[.int .i64 ((c1.toNat : Int) - 48), .int .i64 ((c3.toNat : Int) - 48)] 2)).drew) ⟨rfl, rfl, rfl, Nat.le_refl _, fun _ _ => rfl⟩
        have zb : (wr.alloc (.cells #[.int .i64 ((c1.toNat : Int) - 48), .int .i64 ((c3.toNat : Int) - 48)] 2)).drew.heap.size = wr.heap.size + 1 := by show (wr.alloc (.cells #[.int .i64 ((c1.toNat : Int) - 48), .int .i64 ((c3.toNat : Int) - 48)] 2)).heap.size = _; simp
        obtain ⟨wb, hwb⟩ : ∃ z, (wr.alloc (.cells #[.int .i64 ((c1.toNat : Int) - 48), .int .i64 ((c3.toNat : Int) - 48)] 2)).drew = z := ⟨_, rfl⟩
        rw [hwb] at ua hT ROW0 zb ⊢
        clear hwb ba
        refine anyR_one (i := 15) (by kernel_rfl) rfl ?_
        intro K hK
        go_simp
        have bc := bel_alloc wb (.cells #[.slice (some ⟨wr.heap.size, 0, none⟩) 2 2] 30)
        have uc := bel_trans ua bc
        have hT := SS.out _ uc
        refine hK.out _ _ (fun _ => hT) ?_
        clear hK K
        try simp only [Act.put, List.setIfInBounds_toArray, List.set_cons_zero, List.set_cons_succ, List.getElem_toArray, List.getElem_cons_zero, List.getElem_cons_succ]
        clear hT
        have PC := Lib.hid (MR.out.below uc)
        have RC := Lib.hid (ROW0.below bc)
        have FC := Lib.hid (FR.out.below uc)
        have RRC := Lib.hid (RR.out.below uc)
        have BC := Lib.hid (bel_trans BR.out uc)
        have HCN := Lib.hid (show (wb.alloc (.cells #[.slice (some ⟨wr.heap.size, 0, none⟩) 2 2] 30)).cell? ⟨wr.heap.size + 1, 0, none⟩ = some (.slice (some ⟨wr.heap.size, 0, none⟩) 2 2) from by have := (Cs.new wb [.slice (some ⟨wr.heap.size, 0, none⟩) 2 2] 30).cell 0 rfl; rwa [zb] at this)
        have AP := Lib.hid (apart_new (base := 0) (vs := vs) (fun v hv g' hg' => (MR.out.blocks v hv g' hg').2) RC.out)
        have RM := Lib.hid (RC.out.mono (b2 := w.heap.size + 1) (by omega))
        have loC : w.heap.size + 1 ≤ (wb.alloc (.cells #[.slice (some ⟨wr.heap.size, 0, none⟩) 2 2] 30)).heap.size := by have := uc.size; omega
        obtain ⟨wc, hwc⟩ : ∃ z, wb.alloc (.cells #[.slice (some ⟨wr.heap.size, 0, none⟩) 2 2] 30) = z := ⟨_, rfl⟩
        rw [hwc] at PC RC FC RRC BC HCN RM loC ⊢
        clear ua bc uc hwc ROW0 RC
        have hes : k ≤ 1099511627776 := by have := HPK.out; omega
        refine anyR_one (i := 16) (by kernel_rfl) rfl ?_
        intro K hK
        refine step_app_row _ (by rfl) _ _ (by rfl) (w.heap.size + 1) Q k d vs rows (by rfl) PC.out (some ⟨wr.heap.size, 0, none⟩) 2 2 [(c1.toNat : Int) - 48, (c3.toNat : Int) - 48] RM.out AP.out (wr.heap.size + 1) (by rfl) HCN.out hes loC ?_
        intro g8 c8 w8 p1 p2 p3
        have M8 := Lib.hid p1
        have F8 := Lib.hid (FC.out.keepM PC.out p2)
        have R8 := Lib.hid (RRC.out.keepM PC.out p2)
        have B8 := Lib.hid (BC.out.grown p2 (by omega) (fun x hx => by have := (PC.out.block x hx).1; omega))
        have cx := F8.out.cells.2
        have fx := F8.out.free 1
        refine hK.out _ _ (fun _ => cx) ?_
        clear hK K
        try simp only [Act.put, List.setIfInBounds_toArray, List.set_cons_zero, List.set_cons_succ, List.getElem_toArray, List.getElem_cons_zero, List.getElem_cons_succ]
        have hS := cx
        clear p1 p2 p3
        refine anyR_one (i := 17) (by kernel_rfl) rfl ?_
        intro K hK
        go_simp
        refine hK.out _ _ (fun h => absurd h (by decide)) ?_
        clear hK K
        try simp only [Act.put, List.setIfInBounds_toArray, List.set_cons_zero, List.set_cons_succ, List.getElem_toArray, List.getElem_cons_zero, List.getElem_cons_succ]
        refine anyR_one (i := 18) (by kernel_rfl) rfl ?_
        intro K hK
        go_simp
        refine hK.out _ _ (fun h => absurd h (by decide)) ?_
        clear hK K
        try simp only [Act.put, List.setIfInBounds_toArray, List.set_cons_zero, List.set_cons_succ, List.getElem_toArray, List.getElem_cons_zero, List.getElem_cons_succ]
        refine anyR_done (by kernel_rfl) ?_ _
        refine NoPanic.normal ?_
        clear hS cx fx
        obtain ⟨st1, st2⟩ := F8.out.set1 (.slice (some ⟨g8, 0, none⟩) (k + 1) c8)
        have FE := Lib.hid st1
        have RE := Lib.hid (R8.out.far st2 (by omega))
        have ME := Lib.hid (F8.out.keeps M8.out st2)
        have BE := Lib.hid (B8.out.grown st2 (by have := B8.out.size; omega) (fun x hx => by injection hx with hx; omega))
        have hpk := HPK.out
        clear st1 st2
        go_wp2_with fail
        go_roundw
        case rel => exact ⟨k + 1, p + 4, some ⟨g8, 0, none⟩, c8, _, rows ++ [[(c1.toNat : Int) - 48, (c3.toNat : Int) - 48]], by go_num, by omega, by omega, by simp [hrl], FE.out, RE.out, ME.out, PF.out, BE.out⟩
        case measure => simp [intOf]; omega
      · have hda := decide_eq_false (show ¬ ((p : Int) + 3) < (s.size : Int) by omega)
        have CS := Lib.hid FR.out.cs
        have QM := Lib.hid MR.out.rws
        have HRL := Lib.hid hrl
        have RD := Lib.hid (show Reads s (0 : Int) rows from fun n es ok e => by
          obtain ⟨e1, e2, e3⟩ := HD.out n es ok e
          have hpk := HPK.out
          refine ⟨e1, ?_⟩
          rw [PR.out n es ok e, List.take_of_length_le (by omega)])
        have hes : k ≤ 1048576 := by have := HPK.out; omega
        go_wp2_with fail
        refine (l08Is_any (0 : Int) rows (w.heap.size + 1 + 1) Q k d wr CS.out QM.out).mono ?_
        rintro e w6 ⟨rfl, b6⟩
        have F6 := Lib.hid (FR.out.below b6)
        have R6 := Lib.hid (RR.out.below b6)
        have M6 := Lib.hid (MR.out.below b6)
        have B6 := Lib.hid (bel_trans BR.out b6)
        clear FR RR MR BR b6 CS QM
        cases hf : frB (0 : Int) rows
        · have RES := Lib.hid (RD.out.no (fun h => by rw [hf] at h; cases h))
          clear hf
          have rc0 := R6.out.cells.1
          have rc1 := R6.out.cells.2
          have rf0 := R6.out.free 0
          have rf1 := R6.out.free 1
          obtain ⟨s1, s2⟩ := R6.out.set0 (.int .i64 0)
          obtain ⟨s3, s4⟩ := s1.set1 (.slice none 0 0)
          have BE := Lib.hid ((B6.out.setCell (p := ⟨w.heap.size, 0, none⟩) (Nat.le_refl _) (.int .i64 0)).setCell (p := ⟨w.heap.size, 1, none⟩) (Nat.le_refl _) (.slice none 0 0))
          have RE := Lib.hid s3
          clear s1 s2 s3 s4
          go_wp2_with fail
          obtain ⟨w9, hw9⟩ : ∃ z, (w6.setCell ⟨w.heap.size, 0, none⟩ (.int .i64 0)).setCell ⟨w.heap.size, 1, none⟩ (.slice none 0 0) = z := ⟨_, rfl⟩
          rw [hw9] at BE RE ⊢
          have re0 := RE.out.cells.1
          have re1 := RE.out.cells.2
          exact bodyPost_ret (v := .tuple #[.agg #[.int .i64 0, .slice none 0 0], .bool false]) (by simp [results, Tryd.results4, go_sem, re0, re1]) rfl ⟨0, [], false, none, 0, [], rfl, ownM_nil _ _, RES.out, BE.out⟩
        · have TX := Lib.hid (l08Text_w (0 : Int) rows hf (w.heap.size + 1 + 1) Q k d w6 F6.out.cs M6.out.rws hes)
          have HF := Lib.hid hf
          clear hf
          go_wp2_with fail
          refine TX.out.mono ?_
          rintro e w7 ⟨rfl, b7⟩
          have F7 := Lib.hid (F6.out.below b7)
          have R7 := Lib.hid (R6.out.below b7)
          have M7 := Lib.hid (M6.out.below b7)
          have B7 := Lib.hid (bel_trans B6.out b7)
          clear F6 R6 M6 B6 b7 TX
          by_cases ht : frT (0 : Int) rows = s
          · have RES := Lib.hid (Reads.yes HF.out ht)
            have hq : ((frT (0 : Int) rows).toList == s.toList) = true := (Lib.bytes_beq_iff _ _).2 ht
            clear ht
            have h0c := F7.out.cells.1
            have h1c := F7.out.cells.2
            have rc0 := R7.out.cells.1
            have rc1 := R7.out.cells.2
            have rf0 := R7.out.free 0
            have rf1 := R7.out.free 1
            obtain ⟨s1, s2⟩ := R7.out.set0 (.int .i64 (0 : Int))
            obtain ⟨s3, s4⟩ := s1.set1 (.slice Q k d)
            have ME := Lib.hid (((s1.keeps (R7.out.keeps M7.out s2) s4)).mono (b2 := w.heap.size) (by omega))
            have BE := Lib.hid ((B7.out.setCell (p := ⟨w.heap.size, 0, none⟩) (Nat.le_refl _) (.int .i64 (0 : Int))).setCell (p := ⟨w.heap.size, 1, none⟩) (Nat.le_refl _) (.slice Q k d))
            have RE := Lib.hid s3
            clear s1 s2 s3 s4
            go_wp2_with fail
            obtain ⟨w9, hw9⟩ : ∃ z, (w7.setCell ⟨w.heap.size, 0, none⟩ (.int .i64 (0 : Int))).setCell ⟨w.heap.size, 1, none⟩ (.slice Q k d) = z := ⟨_, rfl⟩
            rw [hw9] at ME BE RE ⊢
            have re0 := RE.out.cells.1
            have re1 := RE.out.cells.2
            exact bodyPost_ret (v := .tuple #[.agg #[.int .i64 (0 : Int), .slice Q k d], .bool true]) (by simp [results, Tryd.results4, go_sem, re0, re1]) rfl ⟨(0 : Int), rows, true, Q, d, vs, by rw [HRL.out], by rw [HRL.out]; exact ME.out, RES.out, BE.out⟩
          · have RES := Lib.hid (RD.out.no (fun _ => ht))
            have hq : ((frT (0 : Int) rows).toList == s.toList) = false := (Lib.bytes_beq_false_iff _ _).2 ht
            clear ht
            have rc0 := R7.out.cells.1
            have rc1 := R7.out.cells.2
            have rf0 := R7.out.free 0
            have rf1 := R7.out.free 1
            obtain ⟨s1, s2⟩ := R7.out.set0 (.int .i64 0)
            obtain ⟨s3, s4⟩ := s1.set1 (.slice none 0 0)
            have BE := Lib.hid ((B7.out.setCell (p := ⟨w.heap.size, 0, none⟩) (Nat.le_refl _) (.int .i64 0)).setCell (p := ⟨w.heap.size, 1, none⟩) (Nat.le_refl _) (.slice none 0 0))
            have RE := Lib.hid s3
            clear s1 s2 s3 s4
            go_wp2_with fail
            obtain ⟨w9, hw9⟩ : ∃ z, (w7.setCell ⟨w.heap.size, 0, none⟩ (.int .i64 0)).setCell ⟨w.heap.size, 1, none⟩ (.slice none 0 0) = z := ⟨_, rfl⟩
            rw [hw9] at BE RE ⊢
            have re0 := RE.out.cells.1
            have re1 := RE.out.cells.2
            exact bodyPost_ret (v := .tuple #[.agg #[.int .i64 0, .slice none 0 0], .bool false]) (by simp [results, Tryd.results4, go_sem, re0, re1]) rfl ⟨0, [], false, none, 0, [], rfl, ownM_nil _ _, RES.out, BE.out⟩
set_option maxHeartbeats 4000000 in
theorem specRead_0 (s : ByteArray) (hs : s.size ≤ 1048576) (w : World) (h1 : s.size = 0) :
    Calls Tryd.prog 4 #[.string s] w (ReadPost s w) := by
  have hc : s.size ≤ 4611686018427387904 := by omega
  have d0 := decide_eq_false (show ¬ (0 : Int) < (s.size : Int) by omega)
  have d2 := decide_eq_false (show ¬ 0 < s.size by omega)
  have d1 := decide_eq_false (show ¬ (1 : Int) < (s.size : Int) by omega)
  have HD := Lib.hid (show ∀ n es, FrOk n es → frT n (es.map erow) = s → (0 : Int) = n ∧ s.size = 0 + 4 * es.length ∧ (decT n).size = 0 from fun n es ok e => by
    have t3 := head_size ok e
    split at t3 <;> omega)
  have g1 := Lib.hid h1
  clear h1
  go_enter Tryd.func4, Tryd.ntmps4
  go_wp2_with fail
  clear d0 d1 d2
  have b0 := bel_alloc w (.cells #[.int .i64 0, .slice none 0 0] 24)
  have b1 := bel_trans b0 (bel_alloc (w.alloc (.cells #[.int .i64 0, .slice none 0 0] 24)) (.cells #[] 30))
  have b2 := bel_trans b1 (bel_alloc ((w.alloc (.cells #[.int .i64 0, .slice none 0 0] 24)).alloc (.cells #[] 30)) (.cells #[.int .i64 (0 : Int), .slice (some ⟨w.heap.size + 1, 0, none⟩) 0 0] 24))
  have z1 : (w.alloc (.cells #[.int .i64 0, .slice none 0 0] 24)).heap.size = w.heap.size + 1 := by simp
  have z2 : ((w.alloc (.cells #[.int .i64 0, .slice none 0 0] 24)).alloc (.cells #[] 30)).heap.size = w.heap.size + 1 + 1 := by simp
  have M0 := (ownM_lit (w.alloc (.cells #[.int .i64 0, .slice none 0 0] 24))).below (bel_alloc _ (.cells #[.int .i64 (0 : Int), .slice (some ⟨w.heap.size + 1, 0, none⟩) 0 0] 24))
  have F0 := FO.new ((w.alloc (.cells #[.int .i64 0, .slice none 0 0] 24)).alloc (.cells #[] 30)) (.int .i64 (0 : Int)) (.slice (some ⟨w.heap.size + 1, 0, none⟩) 0 0)
  have R0 := ((FO.new w (.int .i64 0) (.slice none 0 0)).below (bel_alloc _ (.cells #[] 30))).below (bel_alloc _ (.cells #[.int .i64 (0 : Int), .slice (some ⟨w.heap.size + 1, 0, none⟩) 0 0] 24))
  rw [z1] at M0
  rw [z2] at F0
  have BB := Lib.hid b2
  have MM := Lib.hid M0
  have FF := Lib.hid F0
  have RR := Lib.hid R0
  clear b0 b1 b2 M0 F0 R0 z1 z2
  go_loopw [5] (fun t wr => ∃ (k p : Nat) (Q : Option Addr) (d : Nat) (vs : List Value) (rows : List (List Int)), t = .int .i64 p ∧ p = 0 + 4 * k ∧ p ≤ s.size ∧ rows.length = k ∧ FO wr (w.heap.size + 1 + 1) (.int .i64 (0 : Int)) (.slice Q k d) ∧ FO wr w.heap.size (.int .i64 0) (.slice none 0 0) ∧ OwnM wr (w.heap.size + 1) Q k d vs rows ∧ (∀ n es, FrOk n es → frT n (es.map erow) = s → rows = (es.take k).map erow) ∧ Below w.heap.size w wr) (fun t _ => s.size - (intOf t).toNat)
  case atStart => exact ⟨0, 0, _, 0, [], [], rfl, rfl, by omega, rfl, FF.out, RR.out, MM.out, fun _ _ _ _ => rfl, BB.out⟩
  case round =>
    obtain ⟨k, p, Q, d, vs, rows, rfl, hpk, hp, hrl, hF, hR, hM, hP, hB⟩ := hrel
    have FR := Lib.hid hF
    have RR := Lib.hid hR
    have MR := Lib.hid hM
    have PR := Lib.hid hP
    have BR := Lib.hid hB
    have szr := hB.size
    have ltF := hF.lt
    have ltR := hR.lt
    have HPK := Lib.hid hpk
    clear hF hR hM hP hB BB MM FF hpk
    by_cases hlt : p + 3 < s.size
    · have hda := decide_eq_true (show ((p : Int) + 3) < (s.size : Int) by omega)
      have q1 := FR.out.cells.2
      have j10 : (0 : Int) ≤ (p : Int) + 1 := by omega
      have j11 : (p : Int) + 1 < (s.size : Int) := by omega
      have j30 : (0 : Int) ≤ (p : Int) + 3 := by omega
      have j31 : (p : Int) + 3 < (s.size : Int) := by omega
      have n1 : p + 1 < s.size := by omega
      have n3 : p + 3 < s.size := by omega
      have t1 : ((p : Int) + 1).toNat = p + 1 := by omega
      have t3 : ((p : Int) + 3).toNat = p + 3 := by omega
      obtain ⟨c1, hc1⟩ : ∃ c : UInt8, s[p + 1]'n1 = c := ⟨_, rfl⟩
      obtain ⟨c3, hc3⟩ : ∃ c : UInt8, s[p + 3]'n3 = c := ⟨_, rfl⟩
      have PF := Lib.hid (show ∀ n es, FrOk n es → frT n (es.map erow) = s → rows ++ [[(c1.toNat : Int) - 48, (c3.toNat : Int) - 48]] = (es.take (k + 1)).map erow from fun n es ok e => by
        obtain ⟨e1, e2, e3⟩ := HD.out n es ok e
        have hpk := HPK.out
        obtain ⟨q, hq⟩ : ∃ q, es[k]? = some q := ⟨_, List.getElem?_eq_getElem (by omega)⟩
        have n9 := ok.nine q (List.mem_of_getElem? hq)
        obtain ⟨a1, a3⟩ := frT_at ok hq
        rw [e, e3, show 0 + 4 * k + 1 = p + 1 by omega, at_list n1, hc1] at a1
        rw [e, e3, show 0 + 4 * k + 3 = p + 3 by omega, at_list n3, hc3] at a3
        injection a1 with a1
        injection a3 with a3
        rw [PR.out n es ok e, take_snoc' hq, List.map_append, a1, a3]
        have u1 : (UInt8.ofNat (48 + q.1)).toNat = 48 + q.1 := by simp; omega
        have u3 : (UInt8.ofNat (48 + q.2)).toNat = 48 + q.2 := by simp; omega
        rw [u1, u3]
        simp [erow]
        omega)
      have ew1 : IntKind.i64.wrap ((p : Int) + 1) = (p : Int) + 1 := IntWalk.i64_in _ (by omega)
      have ew3 : IntKind.i64.wrap ((p : Int) + 3) = (p : Int) + 3 := IntWalk.i64_in _ (by omega)
      have cb1 := UInt8.toNat_lt c1
      have cb3 := UInt8.toNat_lt c3
      have wc1 : IntKind.i64.wrap (c1.toNat : Int) = (c1.toNat : Int) := IntWalk.i64_in _ (by omega)
      have wc3 : IntKind.i64.wrap (c3.toNat : Int) = (c3.toNat : Int) := IntWalk.i64_in _ (by omega)
      have wd1 : IntKind.i64.wrap ((c1.toNat : Int) - 48) = (c1.toNat : Int) - 48 := IntWalk.i64_in _ (by omega)
      have wd3 : IntKind.i64.wrap ((c3.toNat : Int) - 48) = (c3.toNat : Int) - 48 := IntWalk.i64_in _ (by omega)
      go_wp2_with fail
      refine wp_region_noPanic ?_
      refine wp_region_R (inFirst (fun W => W.cell? ⟨w.heap.size + 1 + 1, 1, none⟩ = some (.slice Q k d)) 17) (by kernel_rfl) ?_
      have SS := Lib.hid (fun (W : World) (hW : Below wr.heap.size wr W) => (show W.cell? ⟨w.heap.size + 1 + 1, 1, none⟩ = some (.slice Q k d) from (FR.out.below hW).cells.2))
      have hS := SS.out wr.drew ⟨rfl, rfl, rfl, Nat.le_refl _, fun _ _ => rfl⟩
      refine anyR_take (i := 0) (.pointer (some ⟨w.heap.size + 1 + 1, 1, none⟩)) rfl (by kernel_rfl) (by kernel_rfl) (by kernel_rfl) (by kernel_rfl) (fun _ _ _ h => h) (by assumption) ⟨by rfl, ?_⟩ ?_
      · intro W hW
        go_simp
      try simp only [Act.put, List.setIfInBounds_toArray, List.set_cons_zero, List.set_cons_succ, List.getElem_toArray, List.getElem_cons_zero, List.getElem_cons_succ]
      refine anyR_take (i := 1) (.slice Q k d) rfl (by kernel_rfl) (by kernel_rfl) (by kernel_rfl) (by kernel_rfl) (fun _ _ _ h => h) (by assumption) ⟨by rfl, ?_⟩ ?_
      · intro W hW
        go_simp
      try simp only [Act.put, List.setIfInBounds_toArray, List.set_cons_zero, List.set_cons_succ, List.getElem_toArray, List.getElem_cons_zero, List.getElem_cons_succ]
      refine anyR_take (i := 2) (.string s) rfl (by kernel_rfl) (by kernel_rfl) (by kernel_rfl) (by kernel_rfl) (fun _ _ _ h => h) (by assumption) ⟨by rfl, ?_⟩ ?_
      · intro W hW
        go_simp
      try simp only [Act.put, List.setIfInBounds_toArray, List.set_cons_zero, List.set_cons_succ, List.getElem_toArray, List.getElem_cons_zero, List.getElem_cons_succ]
      refine anyR_take (i := 3) (.int .i64 p) rfl (by kernel_rfl) (by kernel_rfl) (by kernel_rfl) (by kernel_rfl) (fun _ _ _ h => h) (by assumption) ⟨by rfl, ?_⟩ ?_
      · intro W hW
        go_simp
      try simp only [Act.put, List.setIfInBounds_toArray, List.set_cons_zero, List.set_cons_succ, List.getElem_toArray, List.getElem_cons_zero, List.getElem_cons_succ]
      refine anyR_take (i := 4) (.int .i64 ((p : Int) + 1)) rfl (by kernel_rfl) (by kernel_rfl) (by kernel_rfl) (by kernel_rfl) (fun _ _ _ h => h) (by assumption) ⟨by rfl, ?_⟩ ?_
      · intro W hW
        go_simp
      try simp only [Act.put, List.setIfInBounds_toArray, List.set_cons_zero, List.set_cons_succ, List.getElem_toArray, List.getElem_cons_zero, List.getElem_cons_succ]
      refine anyR_take (i := 5) (.int .u8 (c1.toNat : Int)) rfl (by kernel_rfl) (by kernel_rfl) (by kernel_rfl) (by kernel_rfl) (fun _ _ _ h => h) (by assumption) ⟨by rfl, ?_⟩ ?_
      · intro W hW
        go_simp
      try simp only [Act.put, List.setIfInBounds_toArray, List.set_cons_zero, List.set_cons_succ, List.getElem_toArray, List.getElem_cons_zero, List.getElem_cons_succ]
      refine anyR_take (i := 6) (.int .i64 (c1.toNat : Int)) rfl (by kernel_rfl) (by kernel_rfl) (by kernel_rfl) (by kernel_rfl) (fun _ _ _ h => h) (by assumption) ⟨by rfl, ?_⟩ ?_
      · intro W hW
        go_simp
      try simp only [Act.put, List.setIfInBounds_toArray, List.set_cons_zero, List.set_cons_succ, List.getElem_toArray, List.getElem_cons_zero, List.getElem_cons_succ]
      refine anyR_take (i := 7) (.int .i64 ((c1.toNat : Int) - 48)) rfl (by kernel_rfl) (by kernel_rfl) (by kernel_rfl) (by kernel_rfl) (fun _ _ _ h => h) (by assumption) ⟨by rfl, ?_⟩ ?_
      · intro W hW
        go_simp
      try simp only [Act.put, List.setIfInBounds_toArray, List.set_cons_zero, List.set_cons_succ, List.getElem_toArray, List.getElem_cons_zero, List.getElem_cons_succ]
      refine anyR_take (i := 8) (.string s) rfl (by kernel_rfl) (by kernel_rfl) (by kernel_rfl) (by kernel_rfl) (fun _ _ _ h => h) (by assumption) ⟨by rfl, ?_⟩ ?_
      · intro W hW
        go_simp
      try simp only [Act.put, List.setIfInBounds_toArray, List.set_cons_zero, List.set_cons_succ, List.getElem_toArray, List.getElem_cons_zero, List.getElem_cons_succ]
      refine anyR_take (i := 9) (.int .i64 p) rfl (by kernel_rfl) (by kernel_rfl) (by kernel_rfl) (by kernel_rfl) (fun _ _ _ h => h) (by assumption) ⟨by rfl, ?_⟩ ?_
      · intro W hW
        go_simp
      try simp only [Act.put, List.setIfInBounds_toArray, List.set_cons_zero, List.set_cons_succ, List.getElem_toArray, List.getElem_cons_zero, List.getElem_cons_succ]
      refine anyR_take (i := 10) (.int .i64 ((p : Int) + 3)) rfl (by kernel_rfl) (by kernel_rfl) (by kernel_rfl) (by kernel_rfl) (fun _ _ _ h => h) (by assumption) ⟨by rfl, ?_⟩ ?_
      · intro W hW
        go_simp
      try simp only [Act.put, List.setIfInBounds_toArray, List.set_cons_zero, List.set_cons_succ, List.getElem_toArray, List.getElem_cons_zero, List.getElem_cons_succ]
      refine anyR_take (i := 11) (.int .u8 (c3.toNat : Int)) rfl (by kernel_rfl) (by kernel_rfl) (by kernel_rfl) (by kernel_rfl) (fun _ _ _ h => h) (by assumption) ⟨by rfl, ?_⟩ ?_
      · intro W hW
        go_simp
      try simp only [Act.put, List.setIfInBounds_toArray, List.set_cons_zero, List.set_cons_succ, List.getElem_toArray, List.getElem_cons_zero, List.getElem_cons_succ]
      refine anyR_take (i := 12) (.int .i64 (c3.toNat : Int)) rfl (by kernel_rfl) (by kernel_rfl) (by kernel_rfl) (by kernel_rfl) (fun _ _ _ h => h) (by assumption) ⟨by rfl, ?_⟩ ?_
      · intro W hW
        go_simp
      try simp only [Act.put, List.setIfInBounds_toArray, List.set_cons_zero, List.set_cons_succ, List.getElem_toArray, List.getElem_cons_zero, List.getElem_cons_succ]
      refine anyR_take (i := 13) (.int .i64 ((c3.toNat : Int) - 48)) rfl (by kernel_rfl) (by kernel_rfl) (by kernel_rfl) (by kernel_rfl) (fun _ _ _ h => h) (by assumption) ⟨by rfl, ?_⟩ ?_
      · intro W hW
        go_simp
      try simp only [Act.put, List.setIfInBounds_toArray, List.set_cons_zero, List.set_cons_succ, List.getElem_toArray, List.getElem_cons_zero, List.getElem_cons_succ]
      refine anyR_one (i := 14) (by kernel_rfl) rfl ?_
      intro K hK
      go_simp
      have ba := bel_alloc wr (.cells #[.int .i64 ((c1.toNat : Int) - 48), .int .i64 ((c3.toNat : Int) - 48)] 2)
      have ua : Below wr.heap.size wr (wr.alloc (.cells #[.int .i64 ((c1.toNat : Int) - 48), .int .i64 ((c3.toNat : Int) - 48)] 2)).drew := bel_trans ba ⟨rfl, rfl, rfl, Nat.le_refl _, fun _ _ => rfl⟩
      have hT := SS.out _ ua
      refine hK.out _ _ (fun _ => hT) ?_
      clear hK K
      try simp only [Act.put, List.setIfInBounds_toArray, List.set_cons_zero, List.set_cons_succ, List.getElem_toArray, List.getElem_cons_zero, List.getElem_cons_succ]
      clear hS
      have ROW0 := (show OwnI (wr.alloc (.cells #[.int .i64 ((c1.toNat : Int) - 48), .int .i64 ((c3.toNat : Int) - 48)] 2)) wr.heap.size (some ⟨wr.heap.size, 0, none⟩) 2 2 [(c1.toNat : Int) - 48, (c3.toNat : Int) - 48] from ownI_row wr [(c1.toNat : Int) - 48, (c3.toNat : Int) - 48] (by intro z hz; simp at hz; rcases hz with rfl | rfl <;> exact WalkArith.wf_i64 (by omega)) (by simp)).below (w' := (wr.alloc (.cells #[.int .i64 ((c1.toNat : Int) - 48), .int .i64 ((c3.toNat : Int) - 48)] 2)).drew) ⟨rfl, rfl, rfl, Nat.le_refl _, fun _ _ => rfl⟩
      have zb : (wr.alloc (.cells #[.int .i64 ((c1.toNat : Int) - 48), .int .i64 ((c3.toNat : Int) - 48)] 2)).drew.heap.size = wr.heap.size + 1 := by show (wr.alloc (.cells #[.int .i64 ((c1.toNat : Int) - 48), .int .i64 ((c3.toNat : Int) - 48)] 2)).heap.size = _; simp
      obtain ⟨wb, hwb⟩ : ∃ z, (wr.alloc (.cells #[.int .i64 ((c1.toNat : Int) - 48), .int .i64 ((c3.toNat : Int) - 48)] 2)).drew = z := ⟨_, rfl⟩
      rw [hwb] at ua hT ROW0 zb ⊢
      clear hwb ba
      refine anyR_one (i := 15) (by kernel_rfl) rfl ?_
      intro K hK
      go_simp
      have bc := bel_alloc wb (.cells #[.slice (some ⟨wr.heap.size, 0, none⟩) 2 2] 30)
      have uc := bel_trans ua bc
      have hT := SS.out _ uc
      refine hK.out _ _ (fun _ => hT) ?_
      clear hK K
      try simp only [Act.put, List.setIfInBounds_toArray, List.set_cons_zero, List.set_cons_succ, List.getElem_toArray, List.getElem_cons_zero, List.getElem_cons_succ]
      clear hT
      have PC := Lib.hid (MR.out.below uc)
      have RC := Lib.hid (ROW0.below bc)
      have FC := Lib.hid (FR.out.below uc)
      have RRC := Lib.hid (RR.out.below uc)
      have BC := Lib.hid (bel_trans BR.out uc)
      have HCN := Lib.hid (show (wb.alloc (.cells #[.slice (some ⟨wr.heap.size, 0, none⟩) 2 2] 30)).cell? ⟨wr.heap.size + 1, 0, none⟩ = some (.slice (some ⟨wr.heap.size, 0, none⟩) 2 2) from by have := (Cs.new wb [.slice (some ⟨wr.heap.size, 0, none⟩) 2 2] 30).cell 0 rfl; rwa [zb] at this)
      have AP := Lib.hid (apart_new (base := 0) (vs := vs) (fun v hv g' hg' => (MR.out.blocks v hv g' hg').2) RC.out)
      have RM := Lib.hid (RC.out.mono (b2 := w.heap.size + 1) (by omega))
      have loC : w.heap.size + 1 ≤ (wb.alloc (.cells #[.slice (some ⟨wr.heap.size, 0, none⟩) 2 2] 30)).heap.size := by have := uc.size; omega
      obtain ⟨wc, hwc⟩ : ∃ z, wb.alloc (.cells #[.slice (some ⟨wr.heap.size, 0, none⟩) 2 2] 30) = z := ⟨_, rfl⟩
      rw [hwc] at PC RC FC RRC BC HCN RM loC ⊢
      clear ua bc uc hwc ROW0 RC
      have hes : k ≤ 1099511627776 := by have := HPK.out; omega
      refine anyR_one (i := 16) (by kernel_rfl) rfl ?_
      intro K hK
      refine step_app_row _ (by rfl) _ _ (by rfl) (w.heap.size + 1) Q k d vs rows (by rfl) PC.out (some ⟨wr.heap.size, 0, none⟩) 2 2 [(c1.toNat : Int) - 48, (c3.toNat : Int) - 48] RM.out AP.out (wr.heap.size + 1) (by rfl) HCN.out hes loC ?_
      intro g8 c8 w8 p1 p2 p3
      have M8 := Lib.hid p1
      have F8 := Lib.hid (FC.out.keepM PC.out p2)
      have R8 := Lib.hid (RRC.out.keepM PC.out p2)
      have B8 := Lib.hid (BC.out.grown p2 (by omega) (fun x hx => by have := (PC.out.block x hx).1; omega))
      have cx := F8.out.cells.2
      have fx := F8.out.free 1
      refine hK.out _ _ (fun _ => cx) ?_
      clear hK K
      try simp only [Act.put, List.setIfInBounds_toArray, List.set_cons_zero, List.set_cons_succ, List.getElem_toArray, List.getElem_cons_zero, List.getElem_cons_succ]
      have hS := cx
      clear p1 p2 p3
      refine anyR_one (i := 17) (by kernel_rfl) rfl ?_
      intro K hK
      go_simp
      refine hK.out _ _ (fun h => absurd h (by decide)) ?_
      clear hK K
      try simp only [Act.put, List.setIfInBounds_toArray, List.set_cons_zero, List.set_cons_succ, List.getElem_toArray, List.getElem_cons_zero, List.getElem_cons_succ]
      refine anyR_one (i := 18) (by kernel_rfl) rfl ?_
      intro K hK
      go_simp
      refine hK.out _ _ (fun h => absurd h (by decide)) ?_
      clear hK K
      try simp only [Act.put, List.setIfInBounds_toArray, List.set_cons_zero, List.set_cons_succ, List.getElem_toArray, List.getElem_cons_zero, List.getElem_cons_succ]
      refine anyR_done (by kernel_rfl) ?_ _
      refine NoPanic.normal ?_
      clear hS cx fx
      obtain ⟨st1, st2⟩ := F8.out.set1 (.slice (some ⟨g8, 0, none⟩) (k + 1) c8)
      have FE := Lib.hid st1
      have RE := Lib.hid (R8.out.far st2 (by omega))
      have ME := Lib.hid (F8.out.keeps M8.out st2)
      have BE := Lib.hid (B8.out.grown st2 (by have := B8.out.size; omega) (fun x hx => by injection hx with hx; omega))
      have hpk := HPK.out
      clear st1 st2
      go_wp2_with fail
      go_roundw
      case rel => exact ⟨k + 1, p + 4, some ⟨g8, 0, none⟩, c8, _, rows ++ [[(c1.toNat : Int) - 48, (c3.toNat : Int) - 48]], by go_num, by omega, by omega, by simp [hrl], FE.out, RE.out, ME.out, PF.out, BE.out⟩
      case measure => simp [intOf]; omega
    · have hda := decide_eq_false (show ¬ ((p : Int) + 3) < (s.size : Int) by omega)
      have CS := Lib.hid FR.out.cs
      have QM := Lib.hid MR.out.rws
      have HRL := Lib.hid hrl
      have RD := Lib.hid (show Reads s (0 : Int) rows from fun n es ok e => by
        obtain ⟨e1, e2, e3⟩ := HD.out n es ok e
        have hpk := HPK.out
        refine ⟨e1, ?_⟩
        rw [PR.out n es ok e, List.take_of_length_le (by omega)])
      have hes : k ≤ 1048576 := by have := HPK.out; omega
      go_wp2_with fail
      refine (l08Is_any (0 : Int) rows (w.heap.size + 1 + 1) Q k d wr CS.out QM.out).mono ?_
      rintro e w6 ⟨rfl, b6⟩
      have F6 := Lib.hid (FR.out.below b6)
      have R6 := Lib.hid (RR.out.below b6)
      have M6 := Lib.hid (MR.out.below b6)
      have B6 := Lib.hid (bel_trans BR.out b6)
      clear FR RR MR BR b6 CS QM
      cases hf : frB (0 : Int) rows
      · have RES := Lib.hid (RD.out.no (fun h => by rw [hf] at h; cases h))
        clear hf
        have rc0 := R6.out.cells.1
        have rc1 := R6.out.cells.2
        have rf0 := R6.out.free 0
        have rf1 := R6.out.free 1
        obtain ⟨s1, s2⟩ := R6.out.set0 (.int .i64 0)
        obtain ⟨s3, s4⟩ := s1.set1 (.slice none 0 0)
        have BE := Lib.hid ((B6.out.setCell (p := ⟨w.heap.size, 0, none⟩) (Nat.le_refl _) (.int .i64 0)).setCell (p := ⟨w.heap.size, 1, none⟩) (Nat.le_refl _) (.slice none 0 0))
        have RE := Lib.hid s3
        clear s1 s2 s3 s4
        go_wp2_with fail
        obtain ⟨w9, hw9⟩ : ∃ z, (w6.setCell ⟨w.heap.size, 0, none⟩ (.int .i64 0)).setCell ⟨w.heap.size, 1, none⟩ (.slice none 0 0) = z := ⟨_, rfl⟩
        rw [hw9] at BE RE ⊢
        have re0 := RE.out.cells.1
        have re1 := RE.out.cells.2
        exact bodyPost_ret (v := .tuple #[.agg #[.int .i64 0, .slice none 0 0], .bool false]) (by simp [results, Tryd.results4, go_sem, re0, re1]) rfl ⟨0, [], false, none, 0, [], rfl, ownM_nil _ _, RES.out, BE.out⟩
      · have TX := Lib.hid (l08Text_w (0 : Int) rows hf (w.heap.size + 1 + 1) Q k d w6 F6.out.cs M6.out.rws hes)
        have HF := Lib.hid hf
        clear hf
        go_wp2_with fail
        refine TX.out.mono ?_
        rintro e w7 ⟨rfl, b7⟩
        have F7 := Lib.hid (F6.out.below b7)
        have R7 := Lib.hid (R6.out.below b7)
        have M7 := Lib.hid (M6.out.below b7)
        have B7 := Lib.hid (bel_trans B6.out b7)
        clear F6 R6 M6 B6 b7 TX
        by_cases ht : frT (0 : Int) rows = s
        · have RES := Lib.hid (Reads.yes HF.out ht)
          have hq : ((frT (0 : Int) rows).toList == s.toList) = true := (Lib.bytes_beq_iff _ _).2 ht
          clear ht
          have h0c := F7.out.cells.1
          have h1c := F7.out.cells.2
          have rc0 := R7.out.cells.1
          have rc1 := R7.out.cells.2
          have rf0 := R7.out.free 0
          have rf1 := R7.out.free 1
          obtain ⟨s1, s2⟩ := R7.out.set0 (.int .i64 (0 : Int))
          obtain ⟨s3, s4⟩ := s1.set1 (.slice Q k d)
          have ME := Lib.hid (((s1.keeps (R7.out.keeps M7.out s2) s4)).mono (b2 := w.heap.size) (by omega))
          have BE := Lib.hid ((B7.out.setCell (p := ⟨w.heap.size, 0, none⟩) (Nat.le_refl _) (.int .i64 (0 : Int))).setCell (p := ⟨w.heap.size, 1, none⟩) (Nat.le_refl _) (.slice Q k d))
          have RE := Lib.hid s3
          clear s1 s2 s3 s4
          go_wp2_with fail
          obtain ⟨w9, hw9⟩ : ∃ z, (w7.setCell ⟨w.heap.size, 0, none⟩ (.int .i64 (0 : Int))).setCell ⟨w.heap.size, 1, none⟩ (.slice Q k d) = z := ⟨_, rfl⟩
          rw [hw9] at ME BE RE ⊢
          have re0 := RE.out.cells.1
          have re1 := RE.out.cells.2
          exact bodyPost_ret (v := .tuple #[.agg #[.int .i64 (0 : Int), .slice Q k d], .bool true]) (by simp [results, Tryd.results4, go_sem, re0, re1]) rfl ⟨(0 : Int), rows, true, Q, d, vs, by rw [HRL.out], by rw [HRL.out]; exact ME.out, RES.out, BE.out⟩
        · have RES := Lib.hid (RD.out.no (fun _ => ht))
          have hq : ((frT (0 : Int) rows).toList == s.toList) = false := (Lib.bytes_beq_false_iff _ _).2 ht
          clear ht
          have rc0 := R7.out.cells.1
          have rc1 := R7.out.cells.2
          have rf0 := R7.out.free 0
          have rf1 := R7.out.free 1
          obtain ⟨s1, s2⟩ := R7.out.set0 (.int .i64 0)
          obtain ⟨s3, s4⟩ := s1.set1 (.slice none 0 0)
          have BE := Lib.hid ((B7.out.setCell (p := ⟨w.heap.size, 0, none⟩) (Nat.le_refl _) (.int .i64 0)).setCell (p := ⟨w.heap.size, 1, none⟩) (Nat.le_refl _) (.slice none 0 0))
          have RE := Lib.hid s3
          clear s1 s2 s3 s4
          go_wp2_with fail
          obtain ⟨w9, hw9⟩ : ∃ z, (w7.setCell ⟨w.heap.size, 0, none⟩ (.int .i64 0)).setCell ⟨w.heap.size, 1, none⟩ (.slice none 0 0) = z := ⟨_, rfl⟩
          rw [hw9] at BE RE ⊢
          have re0 := RE.out.cells.1
          have re1 := RE.out.cells.2
          exact bodyPost_ret (v := .tuple #[.agg #[.int .i64 0, .slice none 0 0], .bool false]) (by simp [results, Tryd.results4, go_sem, re0, re1]) rfl ⟨0, [], false, none, 0, [], rfl, ownM_nil _ _, RES.out, BE.out⟩
theorem specRead_any (s : ByteArray) (hs : s.size ≤ 1048576) (w : World) : Calls Tryd.prog 4 #[.string s] w (ReadPost s w) := by
  by_cases h1 : s.size = 0
  · exact specRead_0 s hs w h1
  · have h1 : 0 < s.size := Nat.pos_of_ne_zero h1
    by_cases h48 : 48 ≤ s[0].toNat
    · by_cases h57 : s[0].toNat ≤ 57
      · by_cases hgt : 1 < s.size
        · cases hten : ((s.extract 0 2).toList == [49, 48])
          · exact specRead_d s hs w h1 h48 h57 hgt hten
          · exact specRead_t s hs w h1 hgt hten
        · exact specRead_1 s hs w h1 h48 h57 (by omega)
      · exact specRead_m s hs w h1 h48 h57
    · exact specRead_n s hs w h1 h48
end Go.Proofs.YteehbnanjgmliaaDoor
