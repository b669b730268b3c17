/- The standing of an argument, on both sides. -/
import Derived.Test.YteejfjgofpolkaaPref
import Derived.Test.YteejfjgofpolkaaGrf3
namespace Go.Proofs.Yteejfjgofpolkaa
set_option linter.unusedVariables false
set_option linter.unusedSimpArgs false
set_option maxRecDepth 100000
open Go.RowKit Go.Deep
theorem rfin_ex {n : Nat} {es : List (Nat × Nat)} (ok : FrOk n es) : ∃ F, RFin n (attM es) F := by
  have hb : ∀ a, attM es a < 1024 := fun a => attM_lt (n := 10) (es := es) (fun q hq => by have := (ok.inn q hq).1; have := ok.n10; omega) a
  have hbn : ∀ a b, (attM es a).testBit b = true → b < n := fun a b h => (ok.inn _ ((attM_bit es a b).1 h)).1
  have n10 := ok.n10
  have : ∀ k, k ≤ n → ∃ F, RSt n (attM es) F (k + 1) := fun k => by
    induction k with
    | zero => exact fun _ => ⟨_, RSt.start n _⟩
    | succ k ih =>
      intro hk
      obtain ⟨F, hF⟩ := ih (by omega)
      obtain ⟨G, hG, _⟩ := hF.next hb hbn ok.n10 (by omega) (by omega)
      exact ⟨G, hG⟩
  obtain ⟨F, hF⟩ := this n (Nat.le_refl _)
  exact ⟨F, hF.fin ok.n10⟩
/-- The rounds of a frame. -/
noncomputable def rndF (n : Nat) (es : List (Nat × Nat)) : Nat → Int := @dite _ (∃ F, RFin n (attM es) F) (Classical.propDecidable _) (fun h => Classical.choose h) (fun _ _ => 0)
theorem rndF_fin {n : Nat} {es : List (Nat × Nat)} (ok : FrOk n es) : RFin n (attM es) (rndF n es) := by
  unfold rndF
  rw [dif_pos (rfin_ex ok)]
  exact Classical.choose_spec (rfin_ex ok)
theorem rndF_eq {n : Nat} {es : List (Nat × Nat)} (ok : FrOk n es) {F : Nat → Int} (h : RFin n (attM es) F) : ∀ a, a < n → F a = rndF n es a :=
  rfin_eq (fun a b h => (ok.inn _ ((attM_bit es a b).1 h)).1) h (rndF_fin ok)
noncomputable def grdM (n : Nat) (es : List (Nat × Nat)) : Nat := accM n (rndF n es)
theorem grdM_eq {n : Nat} {es : List (Nat × Nat)} (ok : FrOk n es) {F : Nat → Int} (h : RFin n (attM es) F) : accM n F = grdM n es := accM_congr (rndF_eq ok h)
theorem grdM_lt {n : Nat} {es : List (Nat × Nat)} (ok : FrOk n es) : grdM n es < 1024 := pow10 ok.n10 (mk_lt _ _)
theorem isArg_ok {cnt x : Int} {rows : List (List Int)} (h : (frB cnt rows && inR x 0 (cnt - 1)) = true) : ∃ (n : Nat) (es : List (Nat × Nat)) (a : Nat), cnt = n ∧ rows = es.map erow ∧ FrOk n es ∧ x = a ∧ a < n := by
  rw [Bool.and_eq_true] at h
  obtain ⟨n, es, rfl, rfl, ok⟩ := frB_yes h.1
  have h2 := inR_true.1 h.2
  exact ⟨n, es, x.toNat, rfl, rfl, ok, by omega, by omega⟩
def cntb (L : List Nat) (a : Nat) : Nat := (L.filter fun m => m.testBit a).length
theorem cntb_le (L : List Nat) (a : Nat) : cntb L a ≤ L.length := List.length_filter_le _ _
theorem cntb_snoc {L : List Nat} {k m : Nat} (h : L[k]? = some m) (a : Nat) : cntb (L.take (k + 1)) a = cntb (L.take k) a + (if m.testBit a then 1 else 0) := by
  unfold cntb
  rw [take_snoc' h, List.filter_append, List.length_append]
  cases hb : m.testBit a <;> simp [hb]
noncomputable def standV (n : Nat) (es : List (Nat × Nat)) (a : Nat) : Int := if (grdM n es).testBit a = true then 3 else if cntb (prefM n es) a = 0 then 0 else if cntb (prefM n es) a = (prefM n es).length then 2 else 1
theorem standV_def (n : Nat) (es : List (Nat × Nat)) (a : Nat) : standV n es a = if (grdM n es).testBit a = true then 3 else if cntb (prefM n es) a = 0 then 0 else if cntb (prefM n es) a = (prefM n es).length then 2 else 1 := rfl
theorem prefM_lt {n : Nat} {es : List (Nat × Nat)} (ok : FrOk n es) {j m : Nat} (h : (prefM n es)[j]? = some m) : m < 1024 := pow10 ok.n10 (allM_mem.1 (List.mem_of_getElem? h)).1
theorem prefM_len {n : Nat} {es : List (Nat × Nat)} (ok : FrOk n es) : (prefM n es).length ≤ 1024 := by
  refine Nat.le_trans (List.length_filter_le _ _) ?_
  rw [List.length_range]
  exact two_pow_le ok.n10
theorem standI_no (cnt : Int) (hc1 : -9223372036854775808 ≤ cnt) (hc2 : cnt ≤ 9223372036854775807) (x : Int) (rows : List (List Int)) (hv : (frB cnt rows && inR x 0 (cnt - 1)) = false) (A : Option Addr) (m c : Nat) (w : World) (h : Rws w A m c rows) :
    Calls Try.prog 36 #[.agg #[.int .i64 cnt, .slice A m c], .int .i64 x] w fun e w' => e = .returned (.tuple #[.int .i64 0, .bool false]) ∧ Below w.heap.size w w' := by
  have b0 := bel_alloc w (.cells #[.int .i64 cnt, .slice A m c] 26)
  have C0 := Cs.new w [.int .i64 cnt, .slice A m c] 26
  have y0 := C0.cell 0 rfl
  have y1 := C0.cell 1 rfl
  have V := Lib.hid (isArgument_any cnt hc1 hc2 x rows A m c _ (h.below b0))
  rw [hv] at V
  have B0 := Lib.hid b0
  clear h C0 b0 hv
  go_enter Try.func36, Try.ntmps36
  go_wp2_with fail
  refine V.out.mono ?_
  rintro e w1 ⟨rfl, b1⟩
  have B1 := Lib.hid (bel_trans B0.out b1)
  clear b1
  go_wp2_with fail
  exact bodyPost_ret (v := .tuple #[.int .i64 0, .bool false]) (by simp [results, Try.results36, go_sem]) rfl ⟨rfl, B1.out⟩
set_option maxHeartbeats 2000000 in
theorem standI_ok (n : Nat) (es : List (Nat × Nat)) (ok : FrOk n es) (a : Nat) (ha : a < n) (hv : (frB n (es.map erow) && inR a 0 ((n : Int) - 1)) = true) (A : Option Addr) (m c : Nat) (w : World) (h : Rws w A m c (es.map erow)) :
    Calls Try.prog 36 #[.agg #[.int .i64 n, .slice A m c], .int .i64 a] w fun e w' => e = .returned (.tuple #[.int .i64 (standV n es a), .bool true]) ∧ Below w.heap.size w w' := by
  have b0 := bel_alloc w (.cells #[.int .i64 n, .slice A m c] 26)
  have C0 := Cs.new w [.int .i64 n, .slice A m c] 26
  have y0 := C0.cell 0 rfl
  have y1 := C0.cell 1 rfl
  have n10 := ok.n10
  have V := Lib.hid (isArgument_any n (by omega) (by omega) a (es.map erow) A m c _ (h.below b0))
  rw [hv] at V
  have OK := Lib.hid ok
  have H := Lib.hid h
  have HC := Lib.hid C0
  have B0 := Lib.hid b0
  have gl := grdM_lt ok
  have LB := Lib.hid (fun (j m : Nat) (hj : (prefM n es)[j]? = some m) => prefM_lt ok hj)
  have hlen := prefM_len ok
  have SV := Lib.hid (standV_def n es a)
  have PR := Lib.hid (fun W hW => preferred_ok n es ok A m c W (h.below (w := w) hW))
  obtain ⟨L, hL⟩ : ∃ l, prefM n es = l := ⟨_, rfl⟩
  obtain ⟨gm, hgm⟩ : ∃ r, grdM n es = r := ⟨_, rfl⟩
  rw [hL] at LB hlen SV PR
  rw [hgm] at gl SV
  have HG := Lib.hid hgm
  have j0 : (0 : Int) ≤ (a : Int) := by omega
  have mn0 : min a 64 = a := by omega
  clear h C0 b0 ok hL hgm hv
  go_enter Try.func36, Try.ntmps36
  go_wp2_with fail
  refine V.out.mono ?_
  rintro e w1 ⟨rfl, b1⟩
  have C1 := Lib.hid (HC.out.below b1)
  have z0 := C1.out.cell 0 rfl
  have z1 := C1.out.cell 1 rfl
  have B1 := Lib.hid (bel_trans B0.out b1)
  clear y0 y1 b1 V
  go_wp2_with fail
  refine (grounded_ok n es OK.out A m c _ (H.out.below B1.out)).mono ?_
  rintro e w2 ⟨F, hF, rfl, b2⟩
  rw [grdM_eq OK.out hF, HG.out]
  have C2 := Lib.hid (C1.out.below b2)
  have q0 := C2.out.cell 0 rfl
  have q1 := C2.out.cell 1 rfl
  have B2 := Lib.hid (bel_trans B1.out b2)
  clear z0 z1 b2 hF
  cases hb : gm.testBit a
  · have hs := shr_zero (m := gm) (i := a) (by omega) hb
    rw [hb] at SV
    clear hb
    go_wp2_with fail
    refine (PR.out _ B2.out).mono ?_
    rintro e w3 ⟨A3, c3, rfl, i3, b3⟩
    have I := Lib.hid i3
    have B3 := Lib.hid (bel_trans B2.out b3)
    clear q0 q1 i3 b3
    go_wp2_with fail
    go_loop [7, 24] (fun o t => ∃ k : Nat, k ≤ L.length ∧ t = .int .i64 k ∧ o = .int .i64 (cntb (L.take k) a : Nat)) (fun _ t => L.length - (intOf t).toNat)
    case atStart => exact ⟨0, Nat.zero_le _, rfl, by simp [cntb]⟩
    case round =>
      obtain ⟨k, hk, rfl, rfl⟩ := hrel
      by_cases hlt : k < L.length
      · obtain ⟨mm, hmm⟩ : ∃ m, L[k]? = some m := ⟨_, List.getElem?_eq_getElem hlt⟩
        obtain ⟨b, off, rfl, hc⟩ := I.out.get (nI_at hmm)
        have hm10 := LB.out k mm hmm
        have cl := cntb_le (L.take k) a
        rw [List.length_take] at cl
        have hd := decide_eq_true (show (k : Int) < (L.length : Int) by omega)
        have k0 : (0 : Int) ≤ (k : Int) := by omega
        have k1 : (k : Int) < (L.length : Int) := by omega
        have CS := cntb_snoc hmm a
        obtain ⟨q, hq⟩ : ∃ r, cntb (L.take k) a = r := ⟨_, rfl⟩
        rw [hq] at CS cl ⊢
        cases hbm : mm.testBit a
        · have hs := shr_zero (m := mm) (i := a) (by omega) hbm
          rw [hbm] at CS
          have E := Lib.hid CS
          clear hbm CS hq hmm
          go_wp2_with fail
          go_round
          case rel => exact ⟨k + 1, by omega, by go_num, by rw [E.out]; simp⟩
          case measure => simp [intOf]; omega
        · have hs := shr_one (m := mm) (i := a) (by omega) hbm
          rw [hbm] at CS
          have E := Lib.hid CS
          have ew : IntKind.i64.wrap ((q : Int) + 1) = (q : Int) + 1 := IntWalk.i64_in _ (by omega)
          clear hbm CS hq hmm
          go_wp2_with fail
          go_round
          case rel => exact ⟨k + 1, by omega, by go_num, by rw [E.out]; simp⟩
          case measure => simp [intOf]; omega
      · obtain rfl : k = L.length := by omega
        have hd := decide_eq_false (show ¬ (L.length : Int) < (L.length : Int) by omega)
        rw [List.take_length]
        have h0 := int_eq0 (cntb L a)
        have h1 := int_eqn (cntb L a) L.length
        obtain ⟨q, hq⟩ : ∃ r, cntb L a = r := ⟨_, rfl⟩
        rw [hq] at SV h0 h1 ⊢
        clear hq
        by_cases e0 : q = 0
        · have R := Lib.hid (show standV n es a = 0 by rw [SV.out, if_neg (by simp), if_pos e0])
          rw [decide_eq_true e0] at h0
          subst e0
          go_wp2_with fail
          exact bodyPost_ret (v := .tuple #[.int .i64 0, .bool true]) (by simp [results, Try.results36, go_sem]) rfl ⟨by rw [R.out], B3.out⟩
        · rw [decide_eq_false e0] at h0
          by_cases e1 : q = L.length
          · have R := Lib.hid (show standV n es a = 2 by rw [SV.out, if_neg (by simp), if_neg e0, if_pos e1])
            rw [decide_eq_true e1] at h1
            clear e0 e1
            go_wp2_with fail
            exact bodyPost_ret (v := .tuple #[.int .i64 2, .bool true]) (by simp [results, Try.results36, go_sem]) rfl ⟨by rw [R.out], B3.out⟩
          · have R := Lib.hid (show standV n es a = 1 by rw [SV.out, if_neg (by simp), if_neg e0, if_neg e1])
            rw [decide_eq_false e1] at h1
            clear e0 e1
            go_wp2_with fail
            exact bodyPost_ret (v := .tuple #[.int .i64 1, .bool true]) (by simp [results, Try.results36, go_sem]) rfl ⟨by rw [R.out], B3.out⟩
  · have hs := shr_one (m := gm) (i := a) (by omega) hb
    have R := Lib.hid (show standV n es a = 3 by rw [SV.out, if_pos hb])
    clear hb
    go_wp2_with fail
    exact bodyPost_ret (v := .tuple #[.int .i64 3, .bool true]) (by simp [results, Try.results36, go_sem]) rfl ⟨by rw [R.out], B2.out⟩
theorem standS_no (cnt : Int) (x : Int) (rows : List (List Int)) (hv : (frB cnt rows && inR x 0 (cnt - 1)) = false) (A : Option Addr) (m c : Nat) (w : World) (h : Rws w A m c rows) :
    Calls Try.prog 35 #[.agg #[.int .i64 cnt, .slice A m c], .int .i64 x] w fun e w' => e = .returned (.tuple #[.int .i64 0, .bool false]) ∧ Below w.heap.size w w' := by
  have b0 := bel_alloc w (.cells #[.int .i64 cnt, .slice A m c] 26)
  have C0 := Cs.new w [.int .i64 cnt, .slice A m c] 26
  have V := Lib.hid (l08Has_any cnt x rows _ A m c _ C0 (h.below b0))
  rw [hv] at V
  have B0 := Lib.hid b0
  clear h C0 b0 hv
  go_enter Try.func35, Try.ntmps35
  go_wp2_with fail
  refine V.out.mono ?_
  rintro e w1 ⟨rfl, b1⟩
  have B1 := Lib.hid (bel_trans B0.out b1)
  clear b1
  go_wp2_with fail
  exact bodyPost_ret (v := .tuple #[.int .i64 0, .bool false]) (by simp [results, Try.results35, go_sem]) rfl ⟨rfl, B1.out⟩
set_option maxHeartbeats 2000000 in
theorem standS_ok (n : Nat) (es : List (Nat × Nat)) (ok : FrOk n es) (a : Nat) (ha : a < n) (hv : (frB n (es.map erow) && inR a 0 ((n : Int) - 1)) = true) (A : Option Addr) (m c : Nat) (w : World) (h : Rws w A m c (es.map erow)) :
    Calls Try.prog 35 #[.agg #[.int .i64 n, .slice A m c], .int .i64 a] w fun e w' => e = .returned (.tuple #[.int .i64 (standV n es a), .bool true]) ∧ Below w.heap.size w w' := by
  have b0 := bel_alloc w (.cells #[.int .i64 n, .slice A m c] 26)
  have C0 := Cs.new w [.int .i64 n, .slice A m c] 26
  have n10 := ok.n10
  have V := Lib.hid (l08Has_any n a (es.map erow) _ A m c _ C0 (h.below b0))
  rw [hv] at V
  have OK := Lib.hid ok
  have H := Lib.hid h
  have HC := Lib.hid C0
  have B0 := Lib.hid b0
  have gl := grdM_lt ok
  have LB := Lib.hid (fun (j m : Nat) (hj : (prefM n es)[j]? = some m) => prefM_lt ok hj)
  have hlen := prefM_len ok
  have SV := Lib.hid (standV_def n es a)
  have NE := Lib.hid (fun h0 => prefM_some ok (List.eq_nil_of_length_eq_zero h0))
  have PR := Lib.hid (fun W g (hW : Gr W g n es) => specPref_ok n es ok g W hW)
  simp only [nI_len] at PR
  obtain ⟨L, hL⟩ : ∃ l, prefM n es = l := ⟨_, rfl⟩
  obtain ⟨gm, hgm⟩ : ∃ r, grdM n es = r := ⟨_, rfl⟩
  rw [hL] at LB hlen SV PR NE
  rw [hgm] at gl SV
  have HG := Lib.hid hgm
  have j0 : (0 : Int) ≤ (a : Int) := by omega
  have mn0 : min a 64 = a := by omega
  clear h C0 b0 ok hL hgm hv
  go_enter Try.func35, Try.ntmps35
  go_wp2_with fail
  refine V.out.mono ?_
  rintro e w1 ⟨rfl, b1⟩
  have C1 := Lib.hid (HC.out.below b1)
  have B1 := Lib.hid (bel_trans B0.out b1)
  clear b1 V
  go_wp2_with fail
  refine (l08Of_ok n es OK.out _ A m c _ C1.out (H.out.below B1.out)).mono ?_
  rintro e w2 ⟨g, rfl, hg, b2⟩
  have G2 := Lib.hid hg
  have B2 := Lib.hid (bel_trans B1.out b2)
  clear hg b2
  go_wp2_with fail
  refine (specGrounded_ok n es OK.out g _ G2.out).mono ?_
  rintro e w3 ⟨F, hF, rfl, b3⟩
  rw [grdM_eq OK.out hF, HG.out]
  have G3 := Lib.hid (G2.out.below b3)
  have B3 := Lib.hid (bel_trans B2.out b3)
  clear hF b3
  obtain ⟨v, hv⟩ : ∃ v, gm.testBit a = v := ⟨_, rfl⟩
  have HV := Lib.hid hv
  rw [hv] at SV
  clear hv
  go_wp2_with fail
  refine (l08In_v HV.out gl (by omega) _).mono ?_
  rintro e w4 ⟨rfl, rfl⟩
  cases v
  · go_wp2_with fail
    refine (PR.out _ _ G3.out).mono ?_
    rintro e w4 ⟨A3, c3, rfl, i3, b4⟩
    have I := Lib.hid i3.ints
    have B4 := Lib.hid (bel_trans B3.out b4)
    clear i3 b4
    go_wp2_with fail
    go_loop [8, 9] (fun o t => ∃ k : Nat, k ≤ L.length ∧ t = .int .i64 k ∧ o = .int .i64 (cntb (L.take k) a : Nat)) (fun _ t => L.length - (intOf t).toNat)
    case atStart => exact ⟨0, Nat.zero_le _, rfl, by simp [cntb]⟩
    case round =>
      obtain ⟨k, hk, rfl, rfl⟩ := hrel
      by_cases hlt : k < L.length
      · obtain ⟨mm, hmm⟩ : ∃ m, L[k]? = some m := ⟨_, List.getElem?_eq_getElem hlt⟩
        obtain ⟨b, off, rfl, hc⟩ := I.out.get (nI_at hmm)
        have hm10 := LB.out k mm hmm
        have cl := cntb_le (L.take k) a
        rw [List.length_take] at cl
        have hd := decide_eq_true (show (k : Int) < (L.length : Int) by omega)
        have k0 : (0 : Int) ≤ (k : Int) := by omega
        have k1 : (k : Int) < (L.length : Int) := by omega
        have CS := cntb_snoc hmm a
        obtain ⟨q, hq⟩ : ∃ r, cntb (L.take k) a = r := ⟨_, rfl⟩
        rw [hq] at CS cl ⊢
        obtain ⟨u, hu⟩ : ∃ v, mm.testBit a = v := ⟨_, rfl⟩
        have HU := Lib.hid hu
        rw [hu] at CS
        have E := Lib.hid CS
        clear hu CS hq hmm
        go_wp2_with fail
        refine (l08In_v HU.out hm10 (by omega) _).mono ?_
        rintro e w5 ⟨rfl, rfl⟩
        cases u
        · go_wp2_with fail
          go_round
          case rel => exact ⟨k + 1, by omega, by go_num, by rw [E.out]; simp⟩
          case measure => simp [intOf]; omega
        · go_wp2_with fail
          go_round
          case rel => exact ⟨k + 1, by omega, by go_num, by rw [E.out]; simp⟩
          case measure => simp [intOf]; omega
      · obtain rfl : k = L.length := by omega
        have hd := decide_eq_false (show ¬ (L.length : Int) < (L.length : Int) by omega)
        rw [List.take_length]
        have h1 := int_eqn (cntb L a) L.length
        have cl := cntb_le L a
        obtain ⟨q, hq⟩ : ∃ r, cntb L a = r := ⟨_, rfl⟩
        rw [hq] at SV h1 cl ⊢
        clear hq
        by_cases e1 : q = L.length
        · have R := Lib.hid (show standV n es a = 2 by rw [SV.out, if_neg (by simp), if_neg (fun e0 => NE.out (by omega)), if_pos e1])
          rw [decide_eq_true e1] at h1
          clear e1
          go_wp2_with fail
          exact bodyPost_ret (v := .tuple #[.int .i64 2, .bool true]) (by simp [results, Try.results35, go_sem]) rfl ⟨by rw [R.out], B4.out⟩
        · rw [decide_eq_false e1] at h1
          by_cases e0 : q = 0
          · have R := Lib.hid (show standV n es a = 0 by rw [SV.out, if_neg (by simp), if_pos e0])
            subst e0
            clear e1
            go_wp2_with fail
            exact bodyPost_ret (v := .tuple #[.int .i64 0, .bool true]) (by simp [results, Try.results35, go_sem]) rfl ⟨by rw [R.out], B4.out⟩
          · have R := Lib.hid (show standV n es a = 1 by rw [SV.out, if_neg (by simp), if_neg e0, if_neg e1])
            have hd0 := decide_eq_true (show (0 : Int) < (q : Int) by omega)
            clear e1
            go_wp2_with fail
            exact bodyPost_ret (v := .tuple #[.int .i64 1, .bool true]) (by simp [results, Try.results35, go_sem]) rfl ⟨by rw [R.out], B4.out⟩
  · have R := Lib.hid (show standV n es a = 3 by rw [SV.out, if_pos rfl])
    go_wp2_with fail
    exact bodyPost_ret (v := .tuple #[.int .i64 3, .bool true]) (by simp [results, Try.results35, go_sem]) rfl ⟨by rw [R.out], B3.out⟩
theorem stand_both (cnt : Int) (hc1 : -9223372036854775808 ≤ cnt) (hc2 : cnt ≤ 9223372036854775807) (x : Int) (rows : List (List Int)) : ∃ (z : Int) (b : Bool),
    (∀ (A : Option Addr) (m c : Nat) (w : World), Rws w A m c rows → Calls Try.prog 36 #[.agg #[.int .i64 cnt, .slice A m c], .int .i64 x] w fun e w' => e = .returned (.tuple #[.int .i64 z, .bool b]) ∧ Below w.heap.size w w') ∧
    (∀ (A : Option Addr) (m c : Nat) (w : World), Rws w A m c rows → Calls Try.prog 35 #[.agg #[.int .i64 cnt, .slice A m c], .int .i64 x] w fun e w' => e = .returned (.tuple #[.int .i64 z, .bool b]) ∧ Below w.heap.size w w') := by
  cases hv : frB cnt rows && inR x 0 (cnt - 1)
  · exact ⟨0, false, fun A m c w h => standI_no cnt hc1 hc2 x rows hv A m c w h, fun A m c w h => standS_no cnt x rows hv A m c w h⟩
  · obtain ⟨n, es, a, rfl, rfl, ok, rfl, ha⟩ := isArg_ok hv
    exact ⟨standV n es a, true, fun A m c w h => standI_ok n es ok a ha hv A m c w h, fun A m c w h => standS_ok n es ok a ha hv A m c w h⟩
end Go.Proofs.Yteejfjgofpolkaa
