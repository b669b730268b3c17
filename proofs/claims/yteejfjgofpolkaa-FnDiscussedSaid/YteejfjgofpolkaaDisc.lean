/- A discussion, as the program leads it. -/
import Derived.Test.YteejfjgofpolkaaIsStr
import Derived.Test.YteejfjgofpolkaaApp
import Derived.Test.YteejfjgofpolkaaSetB
namespace Go.Proofs.Yteejfjgofpolkaa
set_option linter.unusedVariables false
set_option linter.unusedSimpArgs false
set_option maxRecDepth 100000
open Go.RowKit Go.Deep
/-- What has been said last. -/
def lastD (a : Int) (Y M : List Int) : Nat → Int
  | 0 => a
  | k + 1 => Y.getD (M.getD k 0).toNat 0
/-- All that has been said. -/
def outD (a : Int) (Y M : List Int) : Nat → List Int
  | 0 => [a]
  | k + 1 => outD a Y M k ++ [M.getD k 0, Y.getD (M.getD k 0).toNat 0]
def OkD (n : Nat) (es : List (Nat × Nat)) (a : Int) (Y M : List Int) (k : Nat) : Prop := (0 ≤ M.getD k 0 ∧ M.getD k 0 < n) ∧ attB es (M.getD k 0) (lastD a Y M k) = true
structure DiscP (n : Nat) (es : List (Nat × Nat)) (a : Nat) (R Y M : List Int) : Prop where
  str : StrP n es a R Y
  len : M.length ≤ 10
  all : ∀ k, k < M.length → OkD n es a Y M k
theorem outD_len (a : Int) (Y M : List Int) : ∀ k, (outD a Y M k).length = 2 * k + 1
  | 0 => rfl
  | k + 1 => by rw [outD, List.length_append, outD_len a Y M k]; simp; omega
theorem outD_last (a : Int) (Y M : List Int) : ∀ k, (outD a Y M k)[(outD a Y M k).length - 1]? = some (lastD a Y M k)
  | 0 => rfl
  | k + 1 => by
    rw [outD_len]
    show (outD a Y M k ++ [M.getD k 0, Y.getD (M.getD k 0).toNat 0])[2 * (k + 1) + 1 - 1]? = _
    rw [List.getElem?_append_right (by rw [outD_len]; omega), outD_len, show 2 * (k + 1) + 1 - 1 - (2 * k + 1) = 1 by omega]
    rfl
theorem lastD_ok {n a : Nat} {es : List (Nat × Nat)} (ok : FrOk n es) (ha : a < n) {R Y M : List Int} (s : StrP n es a R Y) : ∀ k, (∀ i, i < k → OkD n es a Y M i) → ∃ x : Nat, lastD a Y M k = x ∧ x < n ∧ R.getD x 0 ≠ 0
  | 0, _ => ⟨a, rfl, ha, s.ra⟩
  | k + 1, h => by
    obtain ⟨x, hx, hxn, hr⟩ := lastD_ok ok ha s k fun i hi => h i (by omega)
    obtain ⟨⟨h0, h1⟩, h2⟩ := h k (by omega)
    obtain ⟨q, hq⟩ := Int.eq_ofNat_of_zero_le h0
    rw [hx, hq] at h2
    have he := (attB_nat q x).1 h2
    obtain ⟨g1, g2, g3, _⟩ := s.rep x q he hr
    show ∃ y : Nat, Y.getD (M.getD k 0).toNat 0 = y ∧ _
    rw [hq, Int.toNat_natCast]
    obtain ⟨y, hy⟩ := Int.eq_ofNat_of_zero_le g1
    rw [hy, Int.toNat_natCast] at g2 g3
    exact ⟨y, hy, (ok.inn _ g2).1, g3⟩
/-- What a discussion answers. -/
def DiscE (n : Nat) (es : List (Nat × Nat)) (a : Nat) (R Y M : List Int) (w : World) (e : Ending) (w' : World) : Prop :=
  ∃ (zs : List Int) (b : Bool) (A : Option Addr) (c : Nat), (DiscP n es a R Y M → zs = outD a Y M M.length ∧ b = true) ∧ (¬ DiscP n es a R Y M → zs = [] ∧ b = false) ∧ e = .returned (.tuple #[.slice A zs.length c, .bool b]) ∧ OwnI w' w.heap.size A zs.length c zs ∧ Below w.heap.size w w'
theorem discI_no (cnt : Int) (hc1 : -9223372036854775808 ≤ cnt) (hc2 : cnt ≤ 9223372036854775807) (x : Int) (rows : List (List Int)) (hv : (frB cnt rows && inR x 0 (cnt - 1)) = false) (A : Option Addr) (m c : Nat) (v1 v2 v3 : Value) (w : World) (h : Rws w A m c rows) :
    Calls Try.prog 22 #[.agg #[.int .i64 cnt, .slice A m c], .int .i64 x, .agg #[v1, v2], v3] w fun e w' => e = .returned (.tuple #[.slice none 0 0, .bool false]) ∧ Below w.heap.size w w' := by
  have a0 := bel_alloc w (.cells #[.int .i64 cnt, .slice A m c] 26)
  have C00 := Cs.new w [.int .i64 cnt, .slice A m c] 26
  have a1 := bel_alloc (w.alloc (.cells #[.int .i64 cnt, .slice A m c] 26)) (.cells #[v1, v2] 39)
  have D00 := Cs.new (w.alloc (.cells #[.int .i64 cnt, .slice A m c] 26)) [v1, v2] 39
  rw [show (w.alloc (.cells #[.int .i64 cnt, .slice A m c] 26)).heap.size = w.heap.size + 1 by simp] at D00
  have b0 := bel_trans a0 a1
  have C0 := C00.below a1
  have y0 := C0.cell 0 rfl
  have y1 := C0.cell 1 rfl
  have x0 := D00.cell 0 rfl
  have x1 := D00.cell 1 rfl
  have V := Lib.hid (isStr_no cnt hc1 hc2 x rows hv A m c v1 v2 _ (h.below b0))
  have B0 := Lib.hid b0
  clear h C0 b0 hv a0 a1 C00 D00
  go_enter Try.func22, Try.ntmps22
  go_wp2_with fail
  refine V.out.mono ?_
  rintro e w1 ⟨rfl, b1⟩
  have B1 := Lib.hid (bel_trans B0.out b1)
  clear b1
  go_wp2_with fail
  exact bodyPost_ret (v := .tuple #[.slice none 0 0, .bool false]) (by simp [results, Try.results22, go_sem]) rfl ⟨rfl, B1.out⟩
set_option maxHeartbeats 4000000 in
theorem discI_ok (n : Nat) (es : List (Nat × Nat)) (ok : FrOk n es) (a : Nat) (ha : a < n) (hv : (frB n (es.map erow) && inR a 0 ((n : Int) - 1)) = true) (A : Option Addr) (m c : Nat) (RA : Option Addr) (nr rc : Nat) (R : List Int) (YA : Option Addr) (ny yc : Nat) (Y : List Int) (MA : Option Addr) (mc : Nat) (M : List Int) (w : World) (h : Rws w A m c (es.map erow)) (hR : Ints .i64 w RA nr rc R) (hY : Ints .i64 w YA ny yc Y) (hM : Ints .i64 w MA M.length mc M) :
    Calls Try.prog 22 #[.agg #[.int .i64 n, .slice A m c], .int .i64 a, .agg #[.slice RA nr rc, .slice YA ny yc], .slice MA M.length mc] w (DiscE n es a R Y M w) := by
  have a0 := bel_alloc w (.cells #[.int .i64 n, .slice A m c] 26)
  have C00 := Cs.new w [.int .i64 n, .slice A m c] 26
  have a1 := bel_alloc (w.alloc (.cells #[.int .i64 n, .slice A m c] 26)) (.cells #[.slice RA nr rc, .slice YA ny yc] 39)
  have D00 := Cs.new (w.alloc (.cells #[.int .i64 n, .slice A m c] 26)) [.slice RA nr rc, .slice YA ny yc] 39
  rw [show (w.alloc (.cells #[.int .i64 n, .slice A m c] 26)).heap.size = w.heap.size + 1 by simp] at D00
  have b0 := bel_trans a0 a1
  have C0 := C00.below a1
  have y0 := C0.cell 0 rfl
  have y1 := C0.cell 1 rfl
  have x0 := D00.cell 0 rfl
  have x1 := D00.cell 1 rfl
  have n10 := ok.n10
  have V := Lib.hid (isStr_ok n es ok a ha hv A m c RA nr rc R YA ny yc Y _ (h.below b0) (hR.below b0) (hY.below b0))
  have OK := Lib.hid ok
  have FB := Lib.hid (frB_of ok)
  have H := Lib.hid h
  have HY := Lib.hid hY
  have HM := Lib.hid hM
  have HC := Lib.hid C0
  have HD := Lib.hid D00
  have B0 := Lib.hid b0
  have ms := hM.short
  have NOE := Lib.hid (fun (e : Ending) (w' : World) (hn : ¬ DiscP n es a R Y M) (he : e = .returned (.tuple #[.slice none 0 0, .bool false])) (hb : Below w.heap.size w w') => (show DiscE n es a R Y M w e w' from ⟨[], false, none, 0, fun hp => absurd hp hn, fun _ => ⟨rfl, rfl⟩, he, ownI_nil _ _, hb⟩))
  clear h hR hY hM C0 D00 b0 hv a0 a1 C00 ok
  go_enter Try.func22, Try.ntmps22
  go_wp2_with fail
  refine V.out.mono ?_
  rintro e w1 ⟨v, rfl, hs, b1⟩
  have B1 := Lib.hid (bel_trans B0.out b1)
  have C1 := Lib.hid (HC.out.below b1)
  have D1 := Lib.hid (HD.out.below b1)
  have HS := Lib.hid hs
  clear hs b1 V y0 y1 x0 x1
  cases v
  · have N := Lib.hid (show ¬ DiscP n es a R Y M from fun p => by have := HS.out.2 p.str; exact absurd this (by simp))
    clear HS
    go_wp2_with fail
    exact bodyPost_ret (v := .tuple #[.slice none 0 0, .bool false]) (by simp [results, Try.results22, go_sem]) rfl (NOE.out _ _ N.out rfl B1.out)
  · have ST := Lib.hid (HS.out.1 rfl)
    clear HS
    by_cases hm10 : 10 < M.length
    · have N := Lib.hid (show ¬ DiscP n es a R Y M from fun p => by have := p.len; omega)
      have d0 := decide_eq_true (show (10 : Int) < (M.length : Int) by omega)
      go_wp2_with fail
      exact bodyPost_ret (v := .tuple #[.slice none 0 0, .bool false]) (by simp [results, Try.results22, go_sem]) rfl (NOE.out _ _ N.out rfl B1.out)
    · have d0 := decide_eq_false (show ¬ (10 : Int) < (M.length : Int) by omega)
      have O0 := Lib.hid (show OwnI (w1.alloc (.cells #[.int .i64 a] 2)) w1.heap.size (some ⟨w1.heap.size, 0, none⟩) 1 1 [(a : Int)] from ownI_lits w1 [(a : Int)] (by intro z hz; simp at hz; subst hz; exact WalkArith.wf_i64 (by omega)) (by simp))
      have A0 := Lib.hid (bel_alloc w1 (.cells #[.int .i64 a] 2))
      go_wp2_with fail
      go_loopw [10, 27] (fun s t wr => ∃ (k gO cO : Nat), k ≤ M.length ∧ t = .int .i64 k ∧ s = .slice (some ⟨gO, 0, none⟩) (outD a Y M k).length cO ∧ OwnI wr w1.heap.size (some ⟨gO, 0, none⟩) (outD a Y M k).length cO (outD a Y M k) ∧ Hid (∀ i, i < k → OkD n es a Y M i) ∧ Below w1.heap.size w1 wr) (fun _ t _ => M.length - (intOf t).toNat)
      case atStart => exact ⟨0, w1.heap.size, 1, Nat.zero_le _, rfl, rfl, O0.out, fun i h => absurd h (by omega), A0.out⟩
      case round =>
        obtain ⟨k, gO, cO, hk, rfl, rfl, hO, AL, hB⟩ := hrel
        have HO := Lib.hid hO
        have HB := Lib.hid hB
        have hs := hB.size
        have B2 := Lib.hid (bel_trans B1.out hB)
        have C2 := Lib.hid (C1.out.below hB)
        have D2 := Lib.hid (D1.out.below hB)
        clear hO hB O0 A0
        by_cases hlt : k < M.length
        · have dk := decide_eq_true (show (k : Int) < (M.length : Int) by omega)
          have k0 : (0 : Int) ≤ (k : Int) := by omega
          have k1 : (k : Int) < (M.length : Int) := by omega
          obtain ⟨mb, mo, mv, rfl, _, cm, mv1, mv2, em⟩ := (HM.out.below B2.out).at hlt
          have GM := Lib.hid (getD_at em.out)
          obtain ⟨x, hx, hxn, hxr⟩ := lastD_ok OK.out ha ST.out k AL.out
          have hla := outD_last a Y M k
          have LN0 := outD_len a Y M k
          have OS := Lib.hid (show outD a Y M (k + 1) = outD a Y M k ++ [mv, Y.getD mv.toNat 0] by rw [outD, GM.out])
          have OKI := Lib.hid (show OkD n es a Y M k ↔ (0 ≤ mv ∧ mv < n) ∧ attB es mv (x : Int) = true from by unfold OkD; rw [GM.out, hx])
          rw [hx] at hla
          obtain ⟨O, hOO⟩ : ∃ l, outD a Y M k = l := ⟨_, rfl⟩
          rw [hOO] at HO hla LN0 OS ⊢
          obtain ⟨lO, hlO⟩ : ∃ l, O.length = l := ⟨_, rfl⟩
          rw [hlO] at HO hla LN0 ⊢
          have lb1 : 1 ≤ lO := by omega
          have lb2 : lO ≤ 100 := by omega
          have HLO := Lib.hid hlO
          clear LN0 hlO
          have gl := (HO.out.block gO rfl).2
          have cl := HO.out.cell hla
          obtain ⟨la, hla2⟩ : ∃ la : Int, (x : Int) = la := ⟨_, rfl⟩
          rw [hla2] at cl OKI
          have ew : IntKind.i64.wrap ((lO : Int) - 1) = ((lO - 1 : Nat) : Int) := by rw [show ((lO - 1 : Nat) : Int) = (lO : Int) - 1 by omega]; exact IntWalk.i64_in _ (by omega)
          have l0 : (0 : Int) ≤ ((lO - 1 : Nat) : Int) := by omega
          have l1 : ((lO - 1 : Nat) : Int) < (lO : Int) := by omega
          have SS := Lib.hid (fun (W : World) (hW : Below wr.heap.size wr W) => (show Below wr.heap.size wr W ∧ W.cell? ⟨w.heap.size, 0, none⟩ = some (.int .i64 n) ∧ W.cell? ⟨w.heap.size, 1, none⟩ = some (.slice A m c) ∧ W.cell? ⟨gO, lO - 1, none⟩ = some (.int .i64 la) from ⟨hW, (C2.out.below hW).cell 0 rfl, (C2.out.below hW).cell 1 rfl, (hW.cell (p := ⟨gO, lO - 1, none⟩) gl).trans cl⟩))
          have IR := Lib.hid (fun W (hW : Below wr.heap.size wr W) => isArgument_any n (by omega) (by omega) mv (es.map erow) A m c W (H.out.below (bel_trans B2.out hW)))
          simp only [FB.out, Bool.true_and] at IR
          have AT := Lib.hid (fun W (hW : Below wr.heap.size wr W) => attacks_ok es n mv la A m c W (H.out.below (bel_trans B2.out hW)))
          have NOK := Lib.hid (fun (hn : ¬ OkD n es a Y M k) => (show ¬ DiscP n es a R Y M from fun p => hn (p.all k hlt)))
          clear hla hx em hOO cl hla2
          cases v1 : inR mv 0 ((n : Int) - 1)
          · simp only [v1] at IR
            have N := Lib.hid (NOK.out fun o => by have := (OKI.out.1 o).1; have h2 := inR_true.2 (show 0 ≤ mv ∧ mv ≤ (n : Int) - 1 by omega); rw [v1] at h2; exact absurd h2 (by simp))
            clear v1 OS
            go_wp2_with fail
            refine wp_region_noPanic ?_
            refine wp_region_R (inFirst (fun W => Below wr.heap.size wr W ∧ W.cell? ⟨w.heap.size, 0, none⟩ = some (.int .i64 n) ∧ W.cell? ⟨w.heap.size, 1, none⟩ = some (.slice A m c) ∧ W.cell? ⟨gO, lO - 1, none⟩ = some (.int .i64 la)) 16) (by kernel_rfl) ?_
            have hS := SS.out wr.drew ⟨rfl, rfl, rfl, Nat.le_refl _, fun _ _ => rfl⟩
            refine anyR_take (i := 0) (.agg #[.int .i64 n, .slice A m c]) rfl (by kernel_rfl) (by kernel_rfl) (by kernel_rfl) (by kernel_rfl) (fun _ _ _ h => h) (by assumption) ⟨by rfl, ?_⟩ ?_
            · intro W hW
              go_simp
            try simp only [Act.put, List.setIfInBounds_toArray, List.set_cons_zero, List.set_cons_succ, List.getElem_toArray, List.getElem_cons_zero, List.getElem_cons_succ]
            refine anyR_take (i := 1) (.int .i64 mv) rfl (by kernel_rfl) (by kernel_rfl) (by kernel_rfl) (by kernel_rfl) (fun _ _ _ h => h) (by assumption) ⟨by rfl, ?_⟩ ?_
            · intro W hW
              go_simp
            try simp only [Act.put, List.setIfInBounds_toArray, List.set_cons_zero, List.set_cons_succ, List.getElem_toArray, List.getElem_cons_zero, List.getElem_cons_succ]
            refine anyR_one (i := 2) (by kernel_rfl) rfl ?_
            intro K hK
            go_simp
            go_at_call 59
            refine (IR.out _ hS.1).mono ?_
            rintro e w9 ⟨rfl, b9⟩
            have hT := SS.out w9 (bel_trans hS.1 b9)
            refine hK.out _ _ (fun _ => hT) ?_
            clear hS b9
            have hS := hT
            clear hT
            clear hK K
            try simp only [Act.put, List.setIfInBounds_toArray, List.set_cons_zero, List.set_cons_succ, List.getElem_toArray, List.getElem_cons_zero, List.getElem_cons_succ]
            refine anyR_take (i := 3) (.bool true) rfl (by kernel_rfl) (by kernel_rfl) (by kernel_rfl) (by kernel_rfl) (fun _ _ _ h => h) (by assumption) ⟨by rfl, ?_⟩ ?_
            · intro W hW
              go_simp
            try simp only [Act.put, List.setIfInBounds_toArray, List.set_cons_zero, List.set_cons_succ, List.getElem_toArray, List.getElem_cons_zero, List.getElem_cons_succ]
            refine anyR_take (i := 4) (.bool true) rfl (by kernel_rfl) (by kernel_rfl) (by kernel_rfl) (by kernel_rfl) (fun _ _ _ h => h) (by assumption) ⟨by rfl, ?_⟩ ?_
            · intro W hW
              go_simp
            try simp only [Act.put, List.setIfInBounds_toArray, List.set_cons_zero, List.set_cons_succ, List.getElem_toArray, List.getElem_cons_zero, List.getElem_cons_succ]
            refine anyR_skip (i := 5) rfl (by kernel_rfl) (by kernel_rfl) (by kernel_rfl) (by kernel_rfl) (fun _ _ _ h => h) (by assumption) (by rfl) ?_
            try simp only [Act.put, List.setIfInBounds_toArray, List.set_cons_zero, List.set_cons_succ, List.getElem_toArray, List.getElem_cons_zero, List.getElem_cons_succ]
            refine anyR_skip (i := 6) rfl (by kernel_rfl) (by kernel_rfl) (by kernel_rfl) (by kernel_rfl) (fun _ _ _ h => h) (by assumption) (by rfl) ?_
            try simp only [Act.put, List.setIfInBounds_toArray, List.set_cons_zero, List.set_cons_succ, List.getElem_toArray, List.getElem_cons_zero, List.getElem_cons_succ]
            refine anyR_skip (i := 7) rfl (by kernel_rfl) (by kernel_rfl) (by kernel_rfl) (by kernel_rfl) (fun _ _ _ h => h) (by assumption) (by rfl) ?_
            try simp only [Act.put, List.setIfInBounds_toArray, List.set_cons_zero, List.set_cons_succ, List.getElem_toArray, List.getElem_cons_zero, List.getElem_cons_succ]
            refine anyR_skip (i := 8) rfl (by kernel_rfl) (by kernel_rfl) (by kernel_rfl) (by kernel_rfl) (fun _ _ _ h => h) (by assumption) (by rfl) ?_
            try simp only [Act.put, List.setIfInBounds_toArray, List.set_cons_zero, List.set_cons_succ, List.getElem_toArray, List.getElem_cons_zero, List.getElem_cons_succ]
            refine anyR_skip (i := 9) rfl (by kernel_rfl) (by kernel_rfl) (by kernel_rfl) (by kernel_rfl) (fun _ _ _ h => h) (by assumption) (by rfl) ?_
            try simp only [Act.put, List.setIfInBounds_toArray, List.set_cons_zero, List.set_cons_succ, List.getElem_toArray, List.getElem_cons_zero, List.getElem_cons_succ]
            refine anyR_skip (i := 10) rfl (by kernel_rfl) (by kernel_rfl) (by kernel_rfl) (by kernel_rfl) (fun _ _ _ h => h) (by assumption) (by rfl) ?_
            try simp only [Act.put, List.setIfInBounds_toArray, List.set_cons_zero, List.set_cons_succ, List.getElem_toArray, List.getElem_cons_zero, List.getElem_cons_succ]
            refine anyR_skip (i := 11) rfl (by kernel_rfl) (by kernel_rfl) (by kernel_rfl) (by kernel_rfl) (fun _ _ _ h => h) (by assumption) (by rfl) ?_
            try simp only [Act.put, List.setIfInBounds_toArray, List.set_cons_zero, List.set_cons_succ, List.getElem_toArray, List.getElem_cons_zero, List.getElem_cons_succ]
            refine anyR_skip (i := 12) rfl (by kernel_rfl) (by kernel_rfl) (by kernel_rfl) (by kernel_rfl) (fun _ _ _ h => h) (by assumption) (by rfl) ?_
            try simp only [Act.put, List.setIfInBounds_toArray, List.set_cons_zero, List.set_cons_succ, List.getElem_toArray, List.getElem_cons_zero, List.getElem_cons_succ]
            refine anyR_skip (i := 13) rfl (by kernel_rfl) (by kernel_rfl) (by kernel_rfl) (by kernel_rfl) (fun _ _ _ h => h) (by assumption) (by rfl) ?_
            try simp only [Act.put, List.setIfInBounds_toArray, List.set_cons_zero, List.set_cons_succ, List.getElem_toArray, List.getElem_cons_zero, List.getElem_cons_succ]
            refine anyR_skip (i := 14) rfl (by kernel_rfl) (by kernel_rfl) (by kernel_rfl) (by kernel_rfl) (fun _ _ _ h => h) (by assumption) (by rfl) ?_
            try simp only [Act.put, List.setIfInBounds_toArray, List.set_cons_zero, List.set_cons_succ, List.getElem_toArray, List.getElem_cons_zero, List.getElem_cons_succ]
            refine anyR_take (i := 15) (.bool true) rfl (by kernel_rfl) (by kernel_rfl) (by kernel_rfl) (by kernel_rfl) (fun _ _ _ h => h) (by assumption) ⟨by rfl, ?_⟩ ?_
            · intro W hW
              go_simp
            try simp only [Act.put, List.setIfInBounds_toArray, List.set_cons_zero, List.set_cons_succ, List.getElem_toArray, List.getElem_cons_zero, List.getElem_cons_succ]
            refine anyR_done (by kernel_rfl) ?_ _
            refine NoPanic.normal ?_
            have BE := Lib.hid (bel_trans B2.out hS.1)
            clear hS SS
            go_wp2_with fail
            exact bodyPost_ret (v := .tuple #[.slice none 0 0, .bool false]) (by simp [results, Try.results22, go_sem]) rfl (NOE.out _ _ N.out rfl BE.out)
          · simp only [v1] at IR
            have hmr := inR_true.1 v1
            obtain ⟨v2, hv2⟩ : ∃ v, attB es mv la = v := ⟨_, rfl⟩
            simp only [hv2] at AT
            cases v2
            · have N := Lib.hid (NOK.out fun o => by have := (OKI.out.1 o).2; rw [hv2] at this; exact absurd this (by simp))
              clear v1 OS hv2
              go_wp2_with fail
              refine wp_region_noPanic ?_
              refine wp_region_R (inFirst (fun W => Below wr.heap.size wr W ∧ W.cell? ⟨w.heap.size, 0, none⟩ = some (.int .i64 n) ∧ W.cell? ⟨w.heap.size, 1, none⟩ = some (.slice A m c) ∧ W.cell? ⟨gO, lO - 1, none⟩ = some (.int .i64 la)) 16) (by kernel_rfl) ?_
              have hS := SS.out wr.drew ⟨rfl, rfl, rfl, Nat.le_refl _, fun _ _ => rfl⟩
              refine anyR_take (i := 0) (.agg #[.int .i64 n, .slice A m c]) rfl (by kernel_rfl) (by kernel_rfl) (by kernel_rfl) (by kernel_rfl) (fun _ _ _ h => h) (by assumption) ⟨by rfl, ?_⟩ ?_
              · intro W hW
                go_simp
              try simp only [Act.put, List.setIfInBounds_toArray, List.set_cons_zero, List.set_cons_succ, List.getElem_toArray, List.getElem_cons_zero, List.getElem_cons_succ]
              refine anyR_take (i := 1) (.int .i64 mv) rfl (by kernel_rfl) (by kernel_rfl) (by kernel_rfl) (by kernel_rfl) (fun _ _ _ h => h) (by assumption) ⟨by rfl, ?_⟩ ?_
              · intro W hW
                go_simp
              try simp only [Act.put, List.setIfInBounds_toArray, List.set_cons_zero, List.set_cons_succ, List.getElem_toArray, List.getElem_cons_zero, List.getElem_cons_succ]
              refine anyR_one (i := 2) (by kernel_rfl) rfl ?_
              intro K hK
              go_simp
              go_at_call 59
              refine (IR.out _ hS.1).mono ?_
              rintro e w9 ⟨rfl, b9⟩
              have hT := SS.out w9 (bel_trans hS.1 b9)
              refine hK.out _ _ (fun _ => hT) ?_
              clear hS b9
              have hS := hT
              clear hT
              clear hK K
              try simp only [Act.put, List.setIfInBounds_toArray, List.set_cons_zero, List.set_cons_succ, List.getElem_toArray, List.getElem_cons_zero, List.getElem_cons_succ]
              refine anyR_take (i := 3) (.bool false) rfl (by kernel_rfl) (by kernel_rfl) (by kernel_rfl) (by kernel_rfl) (fun _ _ _ h => h) (by assumption) ⟨by rfl, ?_⟩ ?_
              · intro W hW
                go_simp
              try simp only [Act.put, List.setIfInBounds_toArray, List.set_cons_zero, List.set_cons_succ, List.getElem_toArray, List.getElem_cons_zero, List.getElem_cons_succ]
              refine anyR_take (i := 4) (.bool false) rfl (by kernel_rfl) (by kernel_rfl) (by kernel_rfl) (by kernel_rfl) (fun _ _ _ h => h) (by assumption) ⟨by rfl, ?_⟩ ?_
              · intro W hW
                go_simp
              try simp only [Act.put, List.setIfInBounds_toArray, List.set_cons_zero, List.set_cons_succ, List.getElem_toArray, List.getElem_cons_zero, List.getElem_cons_succ]
              refine anyR_take (i := 5) (.agg #[.int .i64 n, .slice A m c]) rfl (by kernel_rfl) (by kernel_rfl) (by kernel_rfl) (by kernel_rfl) (fun _ _ _ h => h) (by assumption) ⟨by rfl, ?_⟩ ?_
              · intro W hW
                go_simp
              try simp only [Act.put, List.setIfInBounds_toArray, List.set_cons_zero, List.set_cons_succ, List.getElem_toArray, List.getElem_cons_zero, List.getElem_cons_succ]
              refine anyR_take (i := 6) (.int .i64 mv) rfl (by kernel_rfl) (by kernel_rfl) (by kernel_rfl) (by kernel_rfl) (fun _ _ _ h => h) (by assumption) ⟨by rfl, ?_⟩ ?_
              · intro W hW
                go_simp
              try simp only [Act.put, List.setIfInBounds_toArray, List.set_cons_zero, List.set_cons_succ, List.getElem_toArray, List.getElem_cons_zero, List.getElem_cons_succ]
              refine anyR_take (i := 7) (.slice (some ⟨gO, 0, none⟩) lO cO) rfl (by kernel_rfl) (by kernel_rfl) (by kernel_rfl) (by kernel_rfl) (fun _ _ _ h => h) (by assumption) ⟨by rfl, ?_⟩ ?_
              · intro W hW
                go_simp
              try simp only [Act.put, List.setIfInBounds_toArray, List.set_cons_zero, List.set_cons_succ, List.getElem_toArray, List.getElem_cons_zero, List.getElem_cons_succ]
              refine anyR_take (i := 8) (.slice (some ⟨gO, 0, none⟩) lO cO) rfl (by kernel_rfl) (by kernel_rfl) (by kernel_rfl) (by kernel_rfl) (fun _ _ _ h => h) (by assumption) ⟨by rfl, ?_⟩ ?_
              · intro W hW
                go_simp
              try simp only [Act.put, List.setIfInBounds_toArray, List.set_cons_zero, List.set_cons_succ, List.getElem_toArray, List.getElem_cons_zero, List.getElem_cons_succ]
              refine anyR_take (i := 9) (.int .i64 (lO : Nat)) rfl (by kernel_rfl) (by kernel_rfl) (by kernel_rfl) (by kernel_rfl) (fun _ _ _ h => h) (by assumption) ⟨by rfl, ?_⟩ ?_
              · intro W hW
                go_simp
              try simp only [Act.put, List.setIfInBounds_toArray, List.set_cons_zero, List.set_cons_succ, List.getElem_toArray, List.getElem_cons_zero, List.getElem_cons_succ]
              refine anyR_take (i := 10) (.int .i64 ((lO - 1 : Nat) : Int)) rfl (by kernel_rfl) (by kernel_rfl) (by kernel_rfl) (by kernel_rfl) (fun _ _ _ h => h) (by assumption) ⟨by rfl, ?_⟩ ?_
              · intro W hW
                go_simp
              try simp only [Act.put, List.setIfInBounds_toArray, List.set_cons_zero, List.set_cons_succ, List.getElem_toArray, List.getElem_cons_zero, List.getElem_cons_succ]
              refine anyR_take (i := 11) (.pointer (some ⟨gO, lO - 1, none⟩)) rfl (by kernel_rfl) (by kernel_rfl) (by kernel_rfl) (by kernel_rfl) (fun _ _ _ h => h) (by assumption) ⟨by rfl, ?_⟩ ?_
              · intro W hW
                go_simp
              try simp only [Act.put, List.setIfInBounds_toArray, List.set_cons_zero, List.set_cons_succ, List.getElem_toArray, List.getElem_cons_zero, List.getElem_cons_succ]
              refine anyR_take (i := 12) (.int .i64 la) rfl (by kernel_rfl) (by kernel_rfl) (by kernel_rfl) (by kernel_rfl) (fun _ _ _ h => h) (by assumption) ⟨by rfl, ?_⟩ ?_
              · intro W hW
                go_simp
              try simp only [Act.put, List.setIfInBounds_toArray, List.set_cons_zero, List.set_cons_succ, List.getElem_toArray, List.getElem_cons_zero, List.getElem_cons_succ]
              refine anyR_one (i := 13) (by kernel_rfl) rfl ?_
              intro K hK
              go_simp
              go_at_call 69
              refine (AT.out _ hS.1).mono ?_
              rintro e w9 ⟨rfl, b9⟩
              have hT := SS.out w9 (bel_trans hS.1 b9)
              refine hK.out _ _ (fun _ => hT) ?_
              clear hS b9
              have hS := hT
              clear hT
              clear hK K
              try simp only [Act.put, List.setIfInBounds_toArray, List.set_cons_zero, List.set_cons_succ, List.getElem_toArray, List.getElem_cons_zero, List.getElem_cons_succ]
              refine anyR_take (i := 14) (.bool true) rfl (by kernel_rfl) (by kernel_rfl) (by kernel_rfl) (by kernel_rfl) (fun _ _ _ h => h) (by assumption) ⟨by rfl, ?_⟩ ?_
              · intro W hW
                go_simp
              try simp only [Act.put, List.setIfInBounds_toArray, List.set_cons_zero, List.set_cons_succ, List.getElem_toArray, List.getElem_cons_zero, List.getElem_cons_succ]
              refine anyR_take (i := 15) (.bool true) rfl (by kernel_rfl) (by kernel_rfl) (by kernel_rfl) (by kernel_rfl) (fun _ _ _ h => h) (by assumption) ⟨by rfl, ?_⟩ ?_
              · intro W hW
                go_simp
              try simp only [Act.put, List.setIfInBounds_toArray, List.set_cons_zero, List.set_cons_succ, List.getElem_toArray, List.getElem_cons_zero, List.getElem_cons_succ]
              refine anyR_done (by kernel_rfl) ?_ _
              refine NoPanic.normal ?_
              have BE := Lib.hid (bel_trans B2.out hS.1)
              clear hS SS
              go_wp2_with fail
              exact bodyPost_ret (v := .tuple #[.slice none 0 0, .bool false]) (by simp [results, Try.results22, go_sem]) rfl (NOE.out _ _ N.out rfl BE.out)
            · have AN := Lib.hid (fun i (hi : i < k + 1) => (show OkD n es a Y M i from by
                by_cases e : i < k
                · exact AL.out i e
                · have : i = k := by omega
                  subst this
                  exact OKI.out.2 ⟨by omega, hv2⟩))
              obtain ⟨q, rfl⟩ := Int.eq_ofNat_of_zero_le hmr.1
              have ny1 : n = ny := ST.out.ly.symm.trans HY.out.1
              have qny : q < ny := by omega
              have qq0 : (0 : Int) ≤ (q : Int) := by omega
              have qq1 : (q : Int) < (ny : Int) := by omega
              clear ny1
              obtain ⟨yb, yo, yv, rfl, ybl, cyv, yv1, yv2, ey⟩ := (HY.out.below B2.out).at qny
              have GY := Lib.hid (show Y.getD q 0 = yv from getD_at ey.out)
              rw [Int.toNat_natCast, GY.out] at OS
              clear v1 hv2
              go_wp2_with fail
              refine wp_region_noPanic ?_
              refine wp_region_R (inFirst (fun W => Below wr.heap.size wr W ∧ W.cell? ⟨w.heap.size, 0, none⟩ = some (.int .i64 n) ∧ W.cell? ⟨w.heap.size, 1, none⟩ = some (.slice A m c) ∧ W.cell? ⟨gO, lO - 1, none⟩ = some (.int .i64 la)) 16) (by kernel_rfl) ?_
              have hS := SS.out wr.drew ⟨rfl, rfl, rfl, Nat.le_refl _, fun _ _ => rfl⟩
              refine anyR_take (i := 0) (.agg #[.int .i64 n, .slice A m c]) rfl (by kernel_rfl) (by kernel_rfl) (by kernel_rfl) (by kernel_rfl) (fun _ _ _ h => h) (by assumption) ⟨by rfl, ?_⟩ ?_
              · intro W hW
                go_simp
              try simp only [Act.put, List.setIfInBounds_toArray, List.set_cons_zero, List.set_cons_succ, List.getElem_toArray, List.getElem_cons_zero, List.getElem_cons_succ]
              refine anyR_take (i := 1) (.int .i64 (q : Nat)) rfl (by kernel_rfl) (by kernel_rfl) (by kernel_rfl) (by kernel_rfl) (fun _ _ _ h => h) (by assumption) ⟨by rfl, ?_⟩ ?_
              · intro W hW
                go_simp
              try simp only [Act.put, List.setIfInBounds_toArray, List.set_cons_zero, List.set_cons_succ, List.getElem_toArray, List.getElem_cons_zero, List.getElem_cons_succ]
              refine anyR_one (i := 2) (by kernel_rfl) rfl ?_
              intro K hK
              go_simp
              go_at_call 59
              refine (IR.out _ hS.1).mono ?_
              rintro e w9 ⟨rfl, b9⟩
              have hT := SS.out w9 (bel_trans hS.1 b9)
              refine hK.out _ _ (fun _ => hT) ?_
              clear hS b9
              have hS := hT
              clear hT
              clear hK K
              try simp only [Act.put, List.setIfInBounds_toArray, List.set_cons_zero, List.set_cons_succ, List.getElem_toArray, List.getElem_cons_zero, List.getElem_cons_succ]
              refine anyR_take (i := 3) (.bool false) rfl (by kernel_rfl) (by kernel_rfl) (by kernel_rfl) (by kernel_rfl) (fun _ _ _ h => h) (by assumption) ⟨by rfl, ?_⟩ ?_
              · intro W hW
                go_simp
              try simp only [Act.put, List.setIfInBounds_toArray, List.set_cons_zero, List.set_cons_succ, List.getElem_toArray, List.getElem_cons_zero, List.getElem_cons_succ]
              refine anyR_take (i := 4) (.bool false) rfl (by kernel_rfl) (by kernel_rfl) (by kernel_rfl) (by kernel_rfl) (fun _ _ _ h => h) (by assumption) ⟨by rfl, ?_⟩ ?_
              · intro W hW
                go_simp
              try simp only [Act.put, List.setIfInBounds_toArray, List.set_cons_zero, List.set_cons_succ, List.getElem_toArray, List.getElem_cons_zero, List.getElem_cons_succ]
              refine anyR_take (i := 5) (.agg #[.int .i64 n, .slice A m c]) rfl (by kernel_rfl) (by kernel_rfl) (by kernel_rfl) (by kernel_rfl) (fun _ _ _ h => h) (by assumption) ⟨by rfl, ?_⟩ ?_
              · intro W hW
                go_simp
              try simp only [Act.put, List.setIfInBounds_toArray, List.set_cons_zero, List.set_cons_succ, List.getElem_toArray, List.getElem_cons_zero, List.getElem_cons_succ]
              refine anyR_take (i := 6) (.int .i64 (q : Nat)) rfl (by kernel_rfl) (by kernel_rfl) (by kernel_rfl) (by kernel_rfl) (fun _ _ _ h => h) (by assumption) ⟨by rfl, ?_⟩ ?_
              · intro W hW
                go_simp
              try simp only [Act.put, List.setIfInBounds_toArray, List.set_cons_zero, List.set_cons_succ, List.getElem_toArray, List.getElem_cons_zero, List.getElem_cons_succ]
              refine anyR_take (i := 7) (.slice (some ⟨gO, 0, none⟩) lO cO) rfl (by kernel_rfl) (by kernel_rfl) (by kernel_rfl) (by kernel_rfl) (fun _ _ _ h => h) (by assumption) ⟨by rfl, ?_⟩ ?_
              · intro W hW
                go_simp
              try simp only [Act.put, List.setIfInBounds_toArray, List.set_cons_zero, List.set_cons_succ, List.getElem_toArray, List.getElem_cons_zero, List.getElem_cons_succ]
              refine anyR_take (i := 8) (.slice (some ⟨gO, 0, none⟩) lO cO) rfl (by kernel_rfl) (by kernel_rfl) (by kernel_rfl) (by kernel_rfl) (fun _ _ _ h => h) (by assumption) ⟨by rfl, ?_⟩ ?_
              · intro W hW
                go_simp
              try simp only [Act.put, List.setIfInBounds_toArray, List.set_cons_zero, List.set_cons_succ, List.getElem_toArray, List.getElem_cons_zero, List.getElem_cons_succ]
              refine anyR_take (i := 9) (.int .i64 (lO : Nat)) rfl (by kernel_rfl) (by kernel_rfl) (by kernel_rfl) (by kernel_rfl) (fun _ _ _ h => h) (by assumption) ⟨by rfl, ?_⟩ ?_
              · intro W hW
                go_simp
              try simp only [Act.put, List.setIfInBounds_toArray, List.set_cons_zero, List.set_cons_succ, List.getElem_toArray, List.getElem_cons_zero, List.getElem_cons_succ]
              refine anyR_take (i := 10) (.int .i64 ((lO - 1 : Nat) : Int)) rfl (by kernel_rfl) (by kernel_rfl) (by kernel_rfl) (by kernel_rfl) (fun _ _ _ h => h) (by assumption) ⟨by rfl, ?_⟩ ?_
              · intro W hW
                go_simp
              try simp only [Act.put, List.setIfInBounds_toArray, List.set_cons_zero, List.set_cons_succ, List.getElem_toArray, List.getElem_cons_zero, List.getElem_cons_succ]
              refine anyR_take (i := 11) (.pointer (some ⟨gO, lO - 1, none⟩)) rfl (by kernel_rfl) (by kernel_rfl) (by kernel_rfl) (by kernel_rfl) (fun _ _ _ h => h) (by assumption) ⟨by rfl, ?_⟩ ?_
              · intro W hW
                go_simp
              try simp only [Act.put, List.setIfInBounds_toArray, List.set_cons_zero, List.set_cons_succ, List.getElem_toArray, List.getElem_cons_zero, List.getElem_cons_succ]
              refine anyR_take (i := 12) (.int .i64 la) rfl (by kernel_rfl) (by kernel_rfl) (by kernel_rfl) (by kernel_rfl) (fun _ _ _ h => h) (by assumption) ⟨by rfl, ?_⟩ ?_
              · intro W hW
                go_simp
              try simp only [Act.put, List.setIfInBounds_toArray, List.set_cons_zero, List.set_cons_succ, List.getElem_toArray, List.getElem_cons_zero, List.getElem_cons_succ]
              refine anyR_one (i := 13) (by kernel_rfl) rfl ?_
              intro K hK
              go_simp
              go_at_call 69
              refine (AT.out _ hS.1).mono ?_
              rintro e w9 ⟨rfl, b9⟩
              have hT := SS.out w9 (bel_trans hS.1 b9)
              refine hK.out _ _ (fun _ => hT) ?_
              clear hS b9
              have hS := hT
              clear hT
              clear hK K
              try simp only [Act.put, List.setIfInBounds_toArray, List.set_cons_zero, List.set_cons_succ, List.getElem_toArray, List.getElem_cons_zero, List.getElem_cons_succ]
              refine anyR_take (i := 14) (.bool false) rfl (by kernel_rfl) (by kernel_rfl) (by kernel_rfl) (by kernel_rfl) (fun _ _ _ h => h) (by assumption) ⟨by rfl, ?_⟩ ?_
              · intro W hW
                go_simp
              try simp only [Act.put, List.setIfInBounds_toArray, List.set_cons_zero, List.set_cons_succ, List.getElem_toArray, List.getElem_cons_zero, List.getElem_cons_succ]
              refine anyR_take (i := 15) (.bool false) rfl (by kernel_rfl) (by kernel_rfl) (by kernel_rfl) (by kernel_rfl) (fun _ _ _ h => h) (by assumption) ⟨by rfl, ?_⟩ ?_
              · intro W hW
                go_simp
              try simp only [Act.put, List.setIfInBounds_toArray, List.set_cons_zero, List.set_cons_succ, List.getElem_toArray, List.getElem_cons_zero, List.getElem_cons_succ]
              refine anyR_done (by kernel_rfl) ?_ _
              refine NoPanic.normal ?_
              have U5 := Lib.hid hS.1
              have x1 := (D2.out.below hS.1).cell 1 rfl
              have cy9 := (hS.1.cell (p := ⟨yb, yo + q, none⟩) ybl).trans cyv
              have aB := bel_alloc w9 (.cells #[.int .i64 q, .int .i64 yv] 2)
              have O9 := Lib.hid (HO.out.below (bel_trans hS.1 aB))
              have ROW := Lib.hid (show Ints .i64 (w9.alloc (.cells #[.int .i64 q, .int .i64 yv] 2)) (some ⟨w9.heap.size, 0, none⟩) 2 2 [(q : Int), yv] from (show OwnI (w9.alloc (.cells #[.int .i64 q, .int .i64 yv] 2)) w9.heap.size (some ⟨w9.heap.size, 0, none⟩) 2 2 [(q : Int), yv] from ownI_lits w9 [(q : Int), yv] (by intro z hz; simp at hz; rcases hz with rfl | rfl <;> exact WalkArith.wf_i64 (by omega)) (by simp)).ints)
              have X9 := Lib.hid (bel_trans HB.out (bel_trans hS.1 aB))
              have s9 : w1.heap.size ≤ (w9.alloc (.cells #[.int .i64 q, .int .i64 yv] 2)).heap.size := X9.out.size
              have LZ := Lib.hid (show (O ++ [(q : Int), yv]).length = lO + 2 by rw [List.length_append, HLO.out]; rfl)
              clear hS SS aB cyv
              go_wp2_with (at_builtin; refine app_ints (w9.alloc (.cells #[.int .i64 q, .int .i64 yv] 2)) rfl _ _ rfl w1.heap.size (some ⟨gO, 0, none⟩) lO cO O rfl O9.out (some ⟨w9.heap.size, 0, none⟩) 2 2 2 [(q : Int), yv] rfl ROW.out (by omega) (by omega) s9 ?_; intro A8 c8 w8 p1 p2 p3; obtain ⟨g8, rfl, _, _⟩ := p1.form (by omega); have P8 := Lib.hid p1; have X8 := Lib.hid (X9.out.grown p2 s9 (fun y hy => (O9.out.block y hy).1)); clear p1 p2 p3)
              go_roundw
              case rel => exact ⟨k + 1, g8, c8, by omega, by go_num, by rw [OS.out, LZ.out], by rw [OS.out, LZ.out]; exact P8.out, AN.out, X8.out⟩
              case measure => simp [intOf]; omega
        · have hkk : k = M.length := by omega
          have dk := decide_eq_false (show ¬ (k : Int) < (M.length : Int) by omega)
          have DP := Lib.hid (show DiscP n es a R Y M from ⟨ST.out, by omega, fun i hi => AL.out i (by omega)⟩)
          have EO := Lib.hid (show outD a Y M k = outD a Y M M.length by rw [hkk])
          have OF := Lib.hid (HO.out.mono (b2 := w.heap.size) B1.out.size)
          clear hkk
          go_wp2_with fail
          exact bodyPost_ret (v := .tuple #[.slice (some ⟨gO, 0, none⟩) (outD a Y M k).length cO, .bool true]) (by simp [results, Try.results22, go_sem]) rfl ⟨outD a Y M k, true, some ⟨gO, 0, none⟩, cO, fun _ => ⟨EO.out, rfl⟩, fun hn => absurd DP.out hn, rfl, OF.out, B2.out⟩
end Go.Proofs.Yteejfjgofpolkaa
