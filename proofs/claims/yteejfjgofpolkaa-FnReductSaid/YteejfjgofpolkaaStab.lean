/- The stable sets as lists, on both sides. -/
import Derived.Test.YteejfjgofpolkaaSets
import Derived.Test.YteejfjgofpolkaaPhase
namespace Go.Proofs.Yteejfjgofpolkaa
set_option linter.unusedVariables false
set_option linter.unusedSimpArgs false
set_option maxRecDepth 100000
open Go.RowKit Go.Deep
section
variable {P : Program} {ops : Array Oper} {Q : Exit → Act → World → Prop} {md : Region.Mode} {S : World → Prop}
/-- Passed over: its guard is not fulfilled. -/
theorem anyR_skip {p i : Nat} {oi : Oper} {k : Nat} {l : Array Bool} {a : Act} {w : World} (hi : ops[i]? = some oi)
    (hs : Region.noSelect ops = true) (hf : Region.free md ops l i = true) (hr : (Region.ready md ops l).contains i = true) (hw : waits md ops p i [] = true)
    (hQ : ∀ c a w, Q (.panic c) (a.put oi.dst undef) w → Q (.panic c) a w) (hS : S w) (hy : Region.wanted oi (yielded ops a.tmps) = false)
    (h : anyR P md ops Q (inFirst S p) k (l.setIfInBounds i true) (a.put oi.dst undef) w) : anyR P md ops Q (inFirst S p) (k + 1) l a w :=
  anyR_first (S := S) [] hi (Region.noSelect_spec hs) hQ (fun _ x _ => x) (waits_D hw) (fun j oj w' h1 h2 h3 => waits_spec hw j oj w' h1 h2 h3) k l a w (Region.free_spec hi hf) (fun d hm => by simp at hm) (by simpa using hr) (Or.inr ⟨hy, rfl⟩) hS h
end
/-- Stable. -/
def stabB (n : Nat) (es : List (Nat × Nat)) (m : Nat) : Bool := freeB es m && decide (hitM es m ||| m = 2 ^ n - 1)
set_option maxHeartbeats 1000000 in
theorem masks_stab (n : Nat) (n10 : n ≤ 10) (pb pc : Value) (A : Option Addr) (m c : Nat) (p : Nat → Bool) (w : World)
   (hf : Hid (∀ x, x < 2 ^ n → ∀ wr, Below w.heap.size w wr → Calls Try.prog 97 #[.int .i64 (x : Nat), pb, pc] wr fun e w' => e = .returned (.bool (p x)) ∧ Below wr.heap.size wr w')) :
    Calls Try.prog 83 #[.agg #[.int .i64 n, .slice A m c], .func (.func 97) #[] #[pb, pc]] w fun e w' => ∃ A' c', e = .returned (.slice A' (nI (allM n p)).length c') ∧ OwnN w' w.heap.size A' (nI (allM n p)).length c' (nI (allM n p)) ∧ Below w.heap.size w w' := by
  have b0 := bel_alloc w (.cells #[.int .i64 n, .slice A m c] 26)
  have C0 := Cs.new w [.int .i64 n, .slice A m c] 26
  have b1 := bel_alloc (w.alloc (.cells #[.int .i64 n, .slice A m c] 26)) (.cells #[] 3)
  have y0 := C0.cell 0 rfl
  have z0 := (C0.below b1).cell 0 rfl
  have O0 := (ownN_lit (w.alloc (.cells #[.int .i64 n, .slice A m c] 26))).mono (b2 := w.heap.size) (by simp)
  have B0 := Lib.hid (bel_trans b0 b1)
  have h2p := two_pow_le n10
  have hsl := shl_wrap10 n10
  have mn0 : min n 64 = n := by omega
  have j0 : (0 : Int) ≤ (n : Int) := by omega
  have EN := Lib.hid (mL_all n p)
  obtain ⟨N, hN⟩ : ∃ r, 2 ^ n = r := ⟨_, rfl⟩
  rw [hN] at h2p EN hf hsl
  rw [show (w.alloc (.cells #[.int .i64 n, .slice A m c] 26)).heap.size = w.heap.size + 1 by simp] at O0
  have HO0 := Lib.hid O0
  clear hN C0 b0 b1 O0
  go_enter Try.func83, Try.ntmps83
  go_wp2_with fail
  clear y0 z0
  go_loopw [5, 11] (fun o t wr => ∃ (k : Nat) (A : Option Addr) (c : Nat), k ≤ N ∧ t = .int .i64 k ∧ o = .slice A (mL p k).length c ∧ OwnN wr w.heap.size A (mL p k).length c (mL p k) ∧ Below w.heap.size w wr) (fun _ t _ => N - (intOf t).toNat)
  case atStart => exact ⟨0, _, _, Nat.zero_le _, rfl, rfl, HO0.out, B0.out⟩
  case round =>
    obtain ⟨k, A, c, hk, rfl, rfl, hO, hB⟩ := hrel
    have HO := Lib.hid hO
    have HB := Lib.hid hB
    clear hO hB
    by_cases hlt : k < N
    · have hd : decide ((k : Int) < (N : Int)) = true := decide_eq_true (by omega)
      have hs := HB.out.size
      have hl := mL_len p k
      have CL := Lib.hid (hf.out k hlt wr HB.out)
      cases hp : p k
      · rw [hp] at CL
        have E := Lib.hid (mL_no hp)
        clear hp
        go_wp2_with fail
        refine CL.out.mono ?_
        rintro e w3 ⟨rfl, b3⟩
        have HO3 := Lib.hid (HO.out.below b3)
        have HB3 := Lib.hid (bel_trans HB.out b3)
        clear b3
        go_wp2_with fail
        go_roundw
        case rel => exact ⟨k + 1, A, c, by omega, by go_num, by rw [E.out], by rw [E.out]; exact HO3.out, HB3.out⟩
        case measure => simp [intOf]; omega
      · rw [hp] at CL
        have E := Lib.hid (mL_yes hp)
        clear hp
        go_wp2_with fail
        refine CL.out.mono ?_
        rintro e w3 ⟨rfl, b3⟩
        have HO3 := Lib.hid (HO.out.below b3)
        have HB3 := Lib.hid (bel_trans HB.out b3)
        have hs3 := HB3.out.size
        clear b3
        go_wp2_with (at_builtin; refine app_num_at w3 rfl _ _ rfl w.heap.size A (mL p k).length c (mL p k) rfl HO3.out (k : Int) (by omega) (by omega) rfl (by omega) hs3 ?_; intro A7 c7 w7 p1 p2 p3; have P1 := Lib.hid p1; have B7 := Lib.hid (HB3.out.grown p2 hs3 (fun x hx => (HO3.out.block x hx).1)); clear p1 p2 p3)
        go_roundw
        case rel => exact ⟨k + 1, A7, c7, by omega, by go_num, by rw [E.out]; simp, by rw [E.out]; simpa using P1.out, B7.out⟩
        case measure => simp [intOf]; omega
    · obtain rfl : k = N := by omega
      have hd : decide ((k : Int) < (k : Int)) = false := decide_eq_false (by omega)
      have OE : Hid (OwnN wr w.heap.size A (nI (allM n p)).length c (nI (allM n p))) := by show OwnN _ _ _ _ _ _; rw [← EN.out]; exact HO.out
      go_wp2_with fail
      go_ret
      exact ⟨A, c, by rw [EN.out]; rfl, OE.out, HB.out⟩
set_option maxHeartbeats 2000000 in
theorem stabCl_ok (n : Nat) (es : List (Nat × Nat)) (ok : FrOk n es) (x : Nat) (hx : x < 1024) (g g2 : Nat) (A : Option Addr) (m c : Nat) (w : World) (C : Cs w g [.int .i64 n, .slice A m c]) (D : Cs w g2 [.int .i64 ((2 ^ n : Nat) - 1 : Int)]) (h : Rws w A m c (es.map erow)) :
    Calls Try.prog 97 #[.int .i64 x, .pointer (some ⟨g, 0, none⟩), .pointer (some ⟨g2, 0, none⟩)] w fun e w' => e = .returned (.bool (stabB n es x)) ∧ Below w.heap.size w w' := by
  have FR := Lib.hid (fun W hW => isFree_ok n es ok x hx A m c W (h.below (w := w) hW))
  have DF := Lib.hid (fun W hW => attacked_ok n es ok x hx A m c W (h.below (w := w) hW))
  have hq10 := hitM_lt10 ok x
  have hor := i64_or (hitM es x) x (by omega) (by omega)
  have N0 := Nat.two_pow_pos n
  have hq : (((hitM es x ||| x : Nat) : Int) == ((2 ^ n : Nat) : Int) - 1) = decide (hitM es x ||| x = 2 ^ n - 1) := by
    rw [show ((2 ^ n : Nat) : Int) - 1 = ((2 ^ n - 1 : Nat) : Int) by omega]
    exact int_eqn _ _
  have SS := Lib.hid (fun (W : World) (hW : Below w.heap.size w W) => (show Below w.heap.size w W ∧ W.cell? ⟨g, 0, none⟩ = some (.int .i64 n) ∧ W.cell? ⟨g, 1, none⟩ = some (.slice A m c) ∧ W.cell? ⟨g2, 0, none⟩ = some (.int .i64 ((2 ^ n : Nat) - 1 : Int)) from ⟨hW, (C.below hW).cell 0 rfl, (C.below hW).cell 1 rfl, (D.below hW).cell 0 rfl⟩))
  have E := Lib.hid (show stabB n es x = (freeB es x && decide (hitM es x ||| x = 2 ^ n - 1)) from rfl)
  obtain ⟨N, hN⟩ : ∃ q, 2 ^ n = q := ⟨_, rfl⟩
  rw [hN] at hq E SS
  obtain ⟨q, hq1⟩ : ∃ q, hitM es x = q := ⟨_, rfl⟩
  rw [hq1] at DF hq E hor
  obtain ⟨v, hv⟩ : ∃ v, freeB es x = v := ⟨_, rfl⟩
  rw [hv] at FR E
  clear h C D hq1 hv N0 hN
  cases v
  · go_enter Try.func97, Try.ntmps97
    go_wp2_with fail
    refine wp_region_noPanic ?_
    refine wp_region_R (inFirst (fun W => Below w.heap.size w W ∧ W.cell? ⟨g, 0, none⟩ = some (.int .i64 n) ∧ W.cell? ⟨g, 1, none⟩ = some (.slice A m c) ∧ W.cell? ⟨g2, 0, none⟩ = some (.int .i64 ((N : Int) - 1))) 12) (by kernel_rfl) ?_
    have hS0 := SS.out w.drew ⟨rfl, rfl, rfl, Nat.le_refl _, fun _ _ => rfl⟩
    refine anyR_take (i := 0) (.agg #[.int .i64 n, .slice A m c]) rfl (by kernel_rfl) (by kernel_rfl) (by kernel_rfl) (by kernel_rfl) (fun _ _ _ h => h) (by assumption) ⟨by rfl, ?_⟩ ?_
    · intro W hW
      go_simp
    try simp only [Act.put, List.setIfInBounds_toArray, List.set_cons_zero, List.set_cons_succ]
    refine anyR_take (i := 1) (.int .i64 x) rfl (by kernel_rfl) (by kernel_rfl) (by kernel_rfl) (by kernel_rfl) (fun _ _ _ h => h) (by assumption) ⟨by rfl, ?_⟩ ?_
    · intro W hW
      go_simp
    try simp only [Act.put, List.setIfInBounds_toArray, List.set_cons_zero, List.set_cons_succ]
    refine anyR_one (i := 2) (by kernel_rfl) rfl ?_
    intro K hK
    go_simp
    go_at_call 91
    refine (FR.out _ hS0.1).mono ?_
    rintro e w1 ⟨rfl, b1⟩
    have hS1 := SS.out w1 (bel_trans hS0.1 b1)
    refine hK.out _ _ (fun _ => hS1) ?_
    clear hS0 b1
    clear hK K
    try simp only [Act.put, List.setIfInBounds_toArray, List.set_cons_zero, List.set_cons_succ]
    refine anyR_one (i := 3) (by kernel_rfl) rfl ?_
    intro K hK
    go_simp
    refine hK.out _ _ (fun _ => hS1) ?_
    clear hK K
    try simp only [Act.put, List.setIfInBounds_toArray, List.set_cons_zero, List.set_cons_succ]
    refine anyR_skip (i := 4) rfl (by kernel_rfl) (by kernel_rfl) (by kernel_rfl) (by kernel_rfl) (fun _ _ _ h => h) (by assumption) (by rfl) ?_
    try simp only [Act.put, List.setIfInBounds_toArray, List.set_cons_zero, List.set_cons_succ]
    refine anyR_skip (i := 5) rfl (by kernel_rfl) (by kernel_rfl) (by kernel_rfl) (by kernel_rfl) (fun _ _ _ h => h) (by assumption) (by rfl) ?_
    try simp only [Act.put, List.setIfInBounds_toArray, List.set_cons_zero, List.set_cons_succ]
    refine anyR_skip (i := 7) rfl (by kernel_rfl) (by kernel_rfl) (by kernel_rfl) (by kernel_rfl) (fun _ _ _ h => h) (by assumption) (by rfl) ?_
    try simp only [Act.put, List.setIfInBounds_toArray, List.set_cons_zero, List.set_cons_succ]
    refine anyR_skip (i := 9) rfl (by kernel_rfl) (by kernel_rfl) (by kernel_rfl) (by kernel_rfl) (fun _ _ _ h => h) (by assumption) (by rfl) ?_
    try simp only [Act.put, List.setIfInBounds_toArray, List.set_cons_zero, List.set_cons_succ]
    refine anyR_skip (i := 6) rfl (by kernel_rfl) (by kernel_rfl) (by kernel_rfl) (by kernel_rfl) (fun _ _ _ h => h) (by assumption) (by rfl) ?_
    try simp only [Act.put, List.setIfInBounds_toArray, List.set_cons_zero, List.set_cons_succ]
    refine anyR_skip (i := 8) rfl (by kernel_rfl) (by kernel_rfl) (by kernel_rfl) (by kernel_rfl) (fun _ _ _ h => h) (by assumption) (by rfl) ?_
    try simp only [Act.put, List.setIfInBounds_toArray, List.set_cons_zero, List.set_cons_succ]
    refine anyR_skip (i := 10) rfl (by kernel_rfl) (by kernel_rfl) (by kernel_rfl) (by kernel_rfl) (fun _ _ _ h => h) (by assumption) (by rfl) ?_
    try simp only [Act.put, List.setIfInBounds_toArray, List.set_cons_zero, List.set_cons_succ]
    refine anyR_one (i := 11) (by kernel_rfl) rfl ?_
    intro K hK
    go_simp
    refine hK.out _ _ (fun _ => hS1) ?_
    clear hK K
    try simp only [Act.put, List.setIfInBounds_toArray, List.set_cons_zero, List.set_cons_succ]
    refine anyR_one (i := 12) (by kernel_rfl) rfl ?_
    intro K hK
    go_simp
    refine hK.out _ _ (fun h => absurd h (by decide)) ?_
    clear hK K
    try simp only [Act.put, List.setIfInBounds_toArray, List.set_cons_zero, List.set_cons_succ]
    refine anyR_done (by kernel_rfl) ?_ _
    refine NoPanic.normal ?_
    have B9 := Lib.hid hS1.1
    clear hS1 SS
    go_wp2_with fail
    go_ret
    exact ⟨by rw [E.out]; rfl, B9.out⟩
  · go_enter Try.func97, Try.ntmps97
    go_wp2_with fail
    refine wp_region_noPanic ?_
    refine wp_region_R (inFirst (fun W => Below w.heap.size w W ∧ W.cell? ⟨g, 0, none⟩ = some (.int .i64 n) ∧ W.cell? ⟨g, 1, none⟩ = some (.slice A m c) ∧ W.cell? ⟨g2, 0, none⟩ = some (.int .i64 ((N : Int) - 1))) 12) (by kernel_rfl) ?_
    have hS0 := SS.out w.drew ⟨rfl, rfl, rfl, Nat.le_refl _, fun _ _ => rfl⟩
    refine anyR_take (i := 0) (.agg #[.int .i64 n, .slice A m c]) rfl (by kernel_rfl) (by kernel_rfl) (by kernel_rfl) (by kernel_rfl) (fun _ _ _ h => h) (by assumption) ⟨by rfl, ?_⟩ ?_
    · intro W hW
      go_simp
    try simp only [Act.put, List.setIfInBounds_toArray, List.set_cons_zero, List.set_cons_succ]
    refine anyR_take (i := 1) (.int .i64 x) rfl (by kernel_rfl) (by kernel_rfl) (by kernel_rfl) (by kernel_rfl) (fun _ _ _ h => h) (by assumption) ⟨by rfl, ?_⟩ ?_
    · intro W hW
      go_simp
    try simp only [Act.put, List.setIfInBounds_toArray, List.set_cons_zero, List.set_cons_succ]
    refine anyR_one (i := 2) (by kernel_rfl) rfl ?_
    intro K hK
    go_simp
    go_at_call 91
    refine (FR.out _ hS0.1).mono ?_
    rintro e w1 ⟨rfl, b1⟩
    have hS1 := SS.out w1 (bel_trans hS0.1 b1)
    refine hK.out _ _ (fun _ => hS1) ?_
    clear hS0 b1
    clear hK K
    try simp only [Act.put, List.setIfInBounds_toArray, List.set_cons_zero, List.set_cons_succ]
    refine anyR_one (i := 3) (by kernel_rfl) rfl ?_
    intro K hK
    go_simp
    refine hK.out _ _ (fun _ => hS1) ?_
    clear hK K
    try simp only [Act.put, List.setIfInBounds_toArray, List.set_cons_zero, List.set_cons_succ]
    refine anyR_take (i := 4) (.agg #[.int .i64 n, .slice A m c]) rfl (by kernel_rfl) (by kernel_rfl) (by kernel_rfl) (by kernel_rfl) (fun _ _ _ h => h) (by assumption) ⟨by rfl, ?_⟩ ?_
    · intro W hW
      go_simp
    try simp only [Act.put, List.setIfInBounds_toArray, List.set_cons_zero, List.set_cons_succ]
    refine anyR_take (i := 5) (.int .i64 x) rfl (by kernel_rfl) (by kernel_rfl) (by kernel_rfl) (by kernel_rfl) (fun _ _ _ h => h) (by assumption) ⟨by rfl, ?_⟩ ?_
    · intro W hW
      go_simp
    try simp only [Act.put, List.setIfInBounds_toArray, List.set_cons_zero, List.set_cons_succ]
    refine anyR_take (i := 7) (.int .i64 x) rfl (by kernel_rfl) (by kernel_rfl) (by kernel_rfl) (by kernel_rfl) (fun _ _ _ h => h) (by assumption) ⟨by rfl, ?_⟩ ?_
    · intro W hW
      go_simp
    try simp only [Act.put, List.setIfInBounds_toArray, List.set_cons_zero, List.set_cons_succ]
    refine anyR_take (i := 9) (.int .i64 ((N : Int) - 1)) rfl (by kernel_rfl) (by kernel_rfl) (by kernel_rfl) (by kernel_rfl) (fun _ _ _ h => h) (by assumption) ⟨by rfl, ?_⟩ ?_
    · intro W hW
      go_simp
    try simp only [Act.put, List.setIfInBounds_toArray, List.set_cons_zero, List.set_cons_succ]
    refine anyR_one (i := 6) (by kernel_rfl) rfl ?_
    intro K hK
    go_simp
    go_at_call 94
    refine (DF.out _ hS1.1).mono ?_
    rintro e w2 ⟨rfl, b2⟩
    have hS2 := SS.out w2 (bel_trans hS1.1 b2)
    refine hK.out _ _ (fun _ => hS2) ?_
    clear hS1 b2
    clear hK K
    try simp only [Act.put, List.setIfInBounds_toArray, List.set_cons_zero, List.set_cons_succ]
    refine anyR_one (i := 8) (by kernel_rfl) rfl ?_
    intro K hK
    go_simp
    refine hK.out _ _ (fun _ => hS2) ?_
    clear hK K
    try simp only [Act.put, List.setIfInBounds_toArray, List.set_cons_zero, List.set_cons_succ]
    refine anyR_one (i := 10) (by kernel_rfl) rfl ?_
    intro K hK
    go_simp
    refine hK.out _ _ (fun _ => hS2) ?_
    clear hK K
    try simp only [Act.put, List.setIfInBounds_toArray, List.set_cons_zero, List.set_cons_succ]
    refine anyR_one (i := 11) (by kernel_rfl) rfl ?_
    intro K hK
    go_simp
    refine hK.out _ _ (fun _ => hS2) ?_
    clear hK K
    try simp only [Act.put, List.setIfInBounds_toArray, List.set_cons_zero, List.set_cons_succ]
    refine anyR_one (i := 12) (by kernel_rfl) rfl ?_
    intro K hK
    go_simp
    refine hK.out _ _ (fun h => absurd h (by decide)) ?_
    clear hK K
    try simp only [Act.put, List.setIfInBounds_toArray, List.set_cons_zero, List.set_cons_succ]
    refine anyR_done (by kernel_rfl) ?_ _
    refine NoPanic.normal ?_
    have B9 := Lib.hid hS2.1
    clear hS2 SS
    go_wp2_with fail
    go_ret
    exact ⟨by rw [E.out]; simp, B9.out⟩
set_option maxHeartbeats 1000000 in
theorem stabSI_ok (n : Nat) (es : List (Nat × Nat)) (ok : FrOk n es) (hv : frB n (es.map erow) = true) (A : Option Addr) (m c : Nat) (w : World) (h : Rws w A m c (es.map erow)) :
    Calls Try.prog 54 #[.agg #[.int .i64 n, .slice A m c]] w (GivesR (srtL (bitsL (allM n (stabB n es)))) true w) := by
  have b0 := bel_alloc w (.cells #[.int .i64 n, .slice A m c] 26)
  have C0 := Cs.new w [.int .i64 n, .slice A m c] 26
  have y0 := C0.cell 0 rfl
  have y1 := C0.cell 1 rfl
  have n10 := ok.n10
  have V := Lib.hid (validFrame_any n (es.map erow) A m c _ (h.below b0))
  rw [hv] at V
  have HC := Lib.hid C0
  have B0 := Lib.hid b0
  have MK := Lib.hid (fun W (hW : Below w.heap.size w W) (hC : Cs W w.heap.size [.int .i64 n, .slice A m c]) (g2 : Nat) (hD : Cs W g2 [.int .i64 ((2 ^ n : Nat) - 1 : Int)]) => masks_stab n n10 (.pointer (some ⟨w.heap.size, 0, none⟩)) (.pointer (some ⟨g2, 0, none⟩)) A m c (stabB n es) W fun x hx wr hw => stabCl_ok n es ok x (pow10 n10 hx) w.heap.size g2 A m c wr (hC.below hw) (hD.below hw) (h.below (bel_trans hW hw)))
  simp only [nI_len] at MK
  have LB := Lib.hid (fun (x : Nat) (hx : x ∈ allM n (stabB n es)) => allM_lt n10 hx)
  have hlen : (allM n (stabB n es)).length ≤ 1024 := allM_len n10 _
  obtain ⟨L, hL⟩ : ∃ l, allM n (stabB n es) = l := ⟨_, rfl⟩
  rw [hL] at MK LB hlen ⊢
  have h2p := two_pow_le n10
  have hsl := shl_wrap10 n10
  have mn0 : min n 64 = n := by omega
  have j0 : (0 : Int) ≤ (n : Int) := by omega
  have hN0 := Nat.two_pow_pos n
  obtain ⟨N, hN⟩ : ∃ r, 2 ^ n = r := ⟨_, rfl⟩
  rw [hN] at h2p hsl hN0 MK
  have ew := wrap_pred h2p
  clear h C0 b0 hv hL hN
  go_enter Try.func54, Try.ntmps54
  go_wp2_with fail
  refine V.out.mono ?_
  rintro e w1 ⟨rfl, b1⟩
  have C1 := Lib.hid (HC.out.below b1)
  have z0 := C1.out.cell 0 rfl
  have z1 := C1.out.cell 1 rfl
  have B1 := Lib.hid (bel_trans B0.out b1)
  have aD := bel_alloc w1 (.cells #[.int .i64 ((N : Int) - 1)] 3)
  have D1 := Lib.hid (Cs.new w1 [.int .i64 ((N : Int) - 1)] 3)
  have x0 := (C1.out.below aD).cell 0 rfl
  have x1 := (C1.out.below aD).cell 1 rfl
  have C2 := Lib.hid (C1.out.below aD)
  have B2 := Lib.hid (bel_trans B1.out aD)
  clear y0 y1 b1 V aD
  go_wp2_with fail
  refine (MK.out _ B2.out C2.out _ D1.out).mono ?_
  rintro e w2 ⟨A2, c2, rfl, o2, b2⟩
  have I := Lib.hid o2.ints
  have B3 := Lib.hid (bel_trans B2.out b2)
  clear z0 z1 x0 x1 o2 b2 MK
  go_wp2_with fail
  refine (sorted_ok A2 c2 L LB.out hlen _ I.out).mono ?_
  rintro e w3 ⟨A3, c3, vs, rfl, o3, b3⟩
  have O := Lib.hid (o3.mono (b2 := w.heap.size) B3.out.size)
  have B4 := Lib.hid (bel_trans B3.out b3)
  clear o3 b3
  go_wp2_with fail
  exact bodyPost_ret (v := .tuple #[.slice A3 (srtL (bitsL L)).length c3, .bool true]) (by simp [results, Try.results54, go_sem]) rfl ⟨A3, c3, vs, rfl, O.out, B4.out⟩
end Go.Proofs.Yteejfjgofpolkaa
