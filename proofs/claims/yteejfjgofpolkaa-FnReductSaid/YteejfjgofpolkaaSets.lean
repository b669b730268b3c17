/- The preferred sets as lists, on both sides. -/
import Derived.Test.YteejfjgofpolkaaSrt
import Derived.Test.YteejfjgofpolkaaPref
import Derived.Test.YteejfjgofpolkaaRwsLaw
namespace Go.Proofs.Yteejfjgofpolkaa
set_option linter.unusedVariables false
set_option linter.unusedSimpArgs false
set_option maxRecDepth 100000
open Go.RowKit Go.Deep
def GivesR (zss : List (List Int)) (b : Bool) (w : World) (e : Ending) (w' : World) : Prop := ∃ A c vs, e = .returned (.tuple #[.slice A zss.length c, .bool b]) ∧ OwnM w' w.heap.size A zss.length c vs zss ∧ Below w.heap.size w w'
theorem ownM_nil (w : World) (base : Nat) : OwnM w base none 0 0 [] [] := ⟨⟨rfl, .inl ⟨rfl, rfl⟩⟩, rfl, by simp, .nil⟩
theorem allM_lt {n : Nat} (n10 : n ≤ 10) {p : Nat → Bool} {m : Nat} (h : m ∈ allM n p) : m < 1024 := pow10 n10 (allM_mem.1 h).1
theorem allM_len {n : Nat} (n10 : n ≤ 10) (p : Nat → Bool) : (allM n p).length ≤ 1024 := by
  refine Nat.le_trans (List.length_filter_le _ _) ?_
  rw [List.length_range]
  exact two_pow_le n10
theorem bitsTo_le (m : Nat) : (bitsTo m 10).length ≤ 10 := bitsTo_len m 10
theorem sets_tot {L : List Nat} (hl : L.length ≤ 1024) : (srtL (bitsL L)).length ≤ 1048576 ∧ totL (srtL (bitsL L)) ≤ 1048576000 := by
  have h1 : (srtL (bitsL L)).length = L.length := by rw [srtL_len, bitsL_len]
  refine ⟨by omega, ?_⟩
  have := totL_le (zss := srtL (bitsL L)) (b := 10) fun z hz => by
    obtain ⟨m, _, rfl⟩ := List.mem_map.1 ((srtL_perm _).subset hz)
    exact bitsTo_le m
  omega
theorem prefSI_ok (n : Nat) (es : List (Nat × Nat)) (ok : FrOk n es) (hv : frB n (es.map erow) = true) (A : Option Addr) (m c : Nat) (w : World) (h : Rws w A m c (es.map erow)) :
    Calls Try.prog 49 #[.agg #[.int .i64 n, .slice A m c]] w (GivesR (srtL (bitsL (prefM n es))) true w) := by
  have b0 := bel_alloc w (.cells #[.int .i64 n, .slice A m c] 26)
  have C0 := Cs.new w [.int .i64 n, .slice A m c] 26
  have y0 := C0.cell 0 rfl
  have y1 := C0.cell 1 rfl
  have V := Lib.hid (validFrame_any n (es.map erow) A m c _ (h.below b0))
  rw [hv] at V
  have HC := Lib.hid C0
  have B0 := Lib.hid b0
  have PR := Lib.hid (fun W hW => preferred_ok n es ok A m c W (h.below (w := w) hW))
  have LB := Lib.hid (fun (x : Nat) (hx : x ∈ prefM n es) => allM_lt ok.n10 hx)
  have hlen : (prefM n es).length ≤ 1024 := allM_len ok.n10 _
  obtain ⟨L, hL⟩ : ∃ l, prefM n es = l := ⟨_, rfl⟩
  rw [hL] at PR LB hlen ⊢
  clear h C0 b0 hv hL
  go_enter Try.func49, Try.ntmps49
  go_wp2_with fail
  refine V.out.mono ?_
  rintro e w1 ⟨rfl, b1⟩
  have C1 := HC.out.below b1
  have z0 := C1.cell 0 rfl
  have z1 := C1.cell 1 rfl
  have B1 := Lib.hid (bel_trans B0.out b1)
  clear y0 y1 b1 V C1
  go_wp2_with fail
  refine (PR.out _ B1.out).mono ?_
  rintro e w2 ⟨A2, c2, rfl, i2, b2⟩
  have I := Lib.hid i2
  have B2 := Lib.hid (bel_trans B1.out b2)
  clear z0 z1 i2 b2 PR
  go_wp2_with fail
  refine (sorted_ok A2 c2 L LB.out hlen _ I.out).mono ?_
  rintro e w3 ⟨A3, c3, vs, rfl, o3, b3⟩
  have O := Lib.hid (o3.mono (b2 := w.heap.size) B2.out.size)
  have B3 := Lib.hid (bel_trans B2.out b3)
  clear o3 b3
  go_wp2_with fail
  exact bodyPost_ret (v := .tuple #[.slice A3 (srtL (bitsL L)).length c3, .bool true]) (by simp [results, Try.results49, go_sem]) rfl ⟨A3, c3, vs, rfl, O.out, B3.out⟩
set_option maxHeartbeats 1000000 in
theorem masks_comp (n : Nat) (n10 : n ≤ 10) (pb : Value) (A : Option Addr) (m c : Nat) (p : Nat → Bool) (w : World)
   (hf : Hid (∀ x, x < 2 ^ n → ∀ wr, Below w.heap.size w wr → Calls Try.prog 90 #[.int .i64 (x : Nat), pb] wr fun e w' => e = .returned (.bool (p x)) ∧ Below wr.heap.size wr w')) :
    Calls Try.prog 83 #[.agg #[.int .i64 n, .slice A m c], .func (.func 90) #[] #[pb]] w fun e w' => ∃ A' c', e = .returned (.slice A' (nI (allM n p)).length c') ∧ OwnN w' w.heap.size A' (nI (allM n p)).length c' (nI (allM n p)) ∧ Below w.heap.size w w' := by
  have b0 := bel_alloc w (.cells #[.int .i64 n, .slice A m c] 26)
  have C0 := Cs.new w [.int .i64 n, .slice A m c] 26
  have b1 := bel_alloc (w.alloc (.cells #[.int .i64 n, .slice A m c] 26)) (.cells #[] 3)
  have y0 := C0.cell 0 rfl
  have z0 := (C0.below b1).cell 0 rfl
  have O0 := (ownN_lit (w.alloc (.cells #[.int .i64 n, .slice A m c] 26))).mono (b2 := w.heap.size) (by simp)
  have B0 := Lib.hid (bel_trans b0 b1)
  have h2p := two_pow_le n10
  have hsl := shl_wrap10 n10
  have mn0 : min n 64 = n := by omega
  have j0 : (0 : Int) ≤ (n : Int) := by omega
  have EN := Lib.hid (mL_all n p)
  obtain ⟨N, hN⟩ : ∃ r, 2 ^ n = r := ⟨_, rfl⟩
  rw [hN] at h2p EN hf hsl
  rw [show (w.alloc (.cells #[.int .i64 n, .slice A m c] 26)).heap.size = w.heap.size + 1 by simp] at O0
  have HO0 := Lib.hid O0
  clear hN C0 b0 b1 O0
  go_enter Try.func83, Try.ntmps83
  go_wp2_with fail
  clear y0 z0
  go_loopw [5, 11] (fun o t wr => ∃ (k : Nat) (A : Option Addr) (c : Nat), k ≤ N ∧ t = .int .i64 k ∧ o = .slice A (mL p k).length c ∧ OwnN wr w.heap.size A (mL p k).length c (mL p k) ∧ Below w.heap.size w wr) (fun _ t _ => N - (intOf t).toNat)
  case atStart => exact ⟨0, _, _, Nat.zero_le _, rfl, rfl, HO0.out, B0.out⟩
  case round =>
    obtain ⟨k, A, c, hk, rfl, rfl, hO, hB⟩ := hrel
    have HO := Lib.hid hO
    have HB := Lib.hid hB
    clear hO hB
    by_cases hlt : k < N
    · have hd : decide ((k : Int) < (N : Int)) = true := decide_eq_true (by omega)
      have hs := HB.out.size
      have hl := mL_len p k
      have CL := Lib.hid (hf.out k hlt wr HB.out)
      cases hp : p k
      · rw [hp] at CL
        have E := Lib.hid (mL_no hp)
        clear hp
        go_wp2_with fail
        refine CL.out.mono ?_
        rintro e w3 ⟨rfl, b3⟩
        have HO3 := Lib.hid (HO.out.below b3)
        have HB3 := Lib.hid (bel_trans HB.out b3)
        clear b3
        go_wp2_with fail
        go_roundw
        case rel => exact ⟨k + 1, A, c, by omega, by go_num, by rw [E.out], by rw [E.out]; exact HO3.out, HB3.out⟩
        case measure => simp [intOf]; omega
      · rw [hp] at CL
        have E := Lib.hid (mL_yes hp)
        clear hp
        go_wp2_with fail
        refine CL.out.mono ?_
        rintro e w3 ⟨rfl, b3⟩
        have HO3 := Lib.hid (HO.out.below b3)
        have HB3 := Lib.hid (bel_trans HB.out b3)
        have hs3 := HB3.out.size
        clear b3
        go_wp2_with (at_builtin; refine app_num_at w3 rfl _ _ rfl w.heap.size A (mL p k).length c (mL p k) rfl HO3.out (k : Int) (by omega) (by omega) rfl (by omega) hs3 ?_; intro A7 c7 w7 p1 p2 p3; have P1 := Lib.hid p1; have B7 := Lib.hid (HB3.out.grown p2 hs3 (fun x hx => (HO3.out.block x hx).1)); clear p1 p2 p3)
        go_roundw
        case rel => exact ⟨k + 1, A7, c7, by omega, by go_num, by rw [E.out]; simp, by rw [E.out]; simpa using P1.out, B7.out⟩
        case measure => simp [intOf]; omega
    · obtain rfl : k = N := by omega
      have hd : decide ((k : Int) < (k : Int)) = false := decide_eq_false (by omega)
      have OE : Hid (OwnN wr w.heap.size A (nI (allM n p)).length c (nI (allM n p))) := by show OwnN _ _ _ _ _ _; rw [← EN.out]; exact HO.out
      go_wp2_with fail
      go_ret
      exact ⟨A, c, by rw [EN.out]; rfl, OE.out, HB.out⟩
theorem compCl_ok (n : Nat) (es : List (Nat × Nat)) (ok : FrOk n es) (x : Nat) (hx : x < 1024) (g : Nat) (A : Option Addr) (m c : Nat) (w : World) (C : Cs w g [.int .i64 n, .slice A m c]) (h : Rws w A m c (es.map erow)) :
    Calls Try.prog 90 #[.int .i64 x, .pointer (some ⟨g, 0, none⟩)] w fun e w' => e = .returned (.bool (compB n es x)) ∧ Below w.heap.size w w' := by
  have y0 := C.cell 0 rfl
  have y1 := C.cell 1 rfl
  have FR := Lib.hid (isFree_ok n es ok x hx A m c w h)
  have DF := Lib.hid (fun W hW => defended_ok n es ok x hx A m c W (h.below (w := w) hW))
  have CC := Lib.hid C
  have hq := int_eqn (dfdM n es x) x
  have E := Lib.hid (show compB n es x = (freeB es x && decide (dfdM n es x = x)) from rfl)
  obtain ⟨q, hq1⟩ : ∃ q, dfdM n es x = q := ⟨_, rfl⟩
  rw [hq1] at DF hq E
  obtain ⟨v, hv⟩ : ∃ v, freeB es x = v := ⟨_, rfl⟩
  rw [hv] at FR E
  clear h C hq1 hv
  cases v
  · go_enter Try.func90, Try.ntmps90
    go_wp2_with fail
    refine FR.out.mono ?_
    rintro e w1 ⟨rfl, b1⟩
    have B1 := Lib.hid b1
    clear b1
    go_wp2_with fail
    go_ret
    exact ⟨by rw [E.out]; rfl, B1.out⟩
  · go_enter Try.func90, Try.ntmps90
    go_wp2_with fail
    refine FR.out.mono ?_
    rintro e w1 ⟨rfl, b1⟩
    have z0 := (CC.out.below b1).cell 0 rfl
    have z1 := (CC.out.below b1).cell 1 rfl
    have B1 := Lib.hid b1
    clear b1 y0 y1
    go_wp2_with fail
    refine (DF.out _ B1.out).mono ?_
    rintro e w2 ⟨rfl, b2⟩
    have B2 := Lib.hid (bel_trans B1.out b2)
    clear b2
    go_wp2_with fail
    go_ret
    exact ⟨by rw [E.out]; simp, B2.out⟩
set_option maxHeartbeats 1000000 in
theorem compSI_ok (n : Nat) (es : List (Nat × Nat)) (ok : FrOk n es) (hv : frB n (es.map erow) = true) (A : Option Addr) (m c : Nat) (w : World) (h : Rws w A m c (es.map erow)) :
    Calls Try.prog 42 #[.agg #[.int .i64 n, .slice A m c]] w (GivesR (srtL (bitsL (allM n (compB n es)))) true w) := by
  have b0 := bel_alloc w (.cells #[.int .i64 n, .slice A m c] 26)
  have C0 := Cs.new w [.int .i64 n, .slice A m c] 26
  have y0 := C0.cell 0 rfl
  have y1 := C0.cell 1 rfl
  have n10 := ok.n10
  have V := Lib.hid (validFrame_any n (es.map erow) A m c _ (h.below b0))
  rw [hv] at V
  have HC := Lib.hid C0
  have B0 := Lib.hid b0
  have MK := Lib.hid (fun W (hW : Below w.heap.size w W) (hC : Cs W w.heap.size [.int .i64 n, .slice A m c]) => masks_comp n n10 (.pointer (some ⟨w.heap.size, 0, none⟩)) A m c (compB n es) W fun x hx wr hw => compCl_ok n es ok x (pow10 n10 hx) w.heap.size A m c wr (hC.below hw) (h.below (bel_trans hW hw)))
  simp only [nI_len] at MK
  have LB := Lib.hid (fun (x : Nat) (hx : x ∈ allM n (compB n es)) => allM_lt n10 hx)
  have hlen : (allM n (compB n es)).length ≤ 1024 := allM_len n10 _
  obtain ⟨L, hL⟩ : ∃ l, allM n (compB n es) = l := ⟨_, rfl⟩
  rw [hL] at MK LB hlen ⊢
  have h2p := two_pow_le n10
  have hsl := shl_wrap10 n10
  have mn0 : min n 64 = n := by omega
  have j0 : (0 : Int) ≤ (n : Int) := by omega
  obtain ⟨N, hN⟩ : ∃ r, 2 ^ n = r := ⟨_, rfl⟩
  have hN0 := Nat.two_pow_pos n
  rw [hN] at h2p hsl hN0
  have ew := wrap_pred h2p
  clear h C0 b0 hv hL hN
  go_enter Try.func42, Try.ntmps42
  go_wp2_with fail
  refine V.out.mono ?_
  rintro e w1 ⟨rfl, b1⟩
  have C1 := Lib.hid (HC.out.below b1)
  have z0 := C1.out.cell 0 rfl
  have z1 := C1.out.cell 1 rfl
  have B1 := Lib.hid (bel_trans B0.out b1)
  clear y0 y1 b1 V
  go_wp2_with fail
  refine (MK.out _ B1.out C1.out).mono ?_
  rintro e w2 ⟨A2, c2, rfl, o2, b2⟩
  have I := Lib.hid o2.ints
  have B2 := Lib.hid (bel_trans B1.out b2)
  clear z0 z1 o2 b2 MK
  go_wp2_with fail
  refine (sorted_ok A2 c2 L LB.out hlen _ I.out).mono ?_
  rintro e w3 ⟨A3, c3, vs, rfl, o3, b3⟩
  have O := Lib.hid (o3.mono (b2 := w.heap.size) B2.out.size)
  have B3 := Lib.hid (bel_trans B2.out b3)
  clear o3 b3
  go_wp2_with fail
  exact bodyPost_ret (v := .tuple #[.slice A3 (srtL (bitsL L)).length c3, .bool true]) (by simp [results, Try.results42, go_sem]) rfl ⟨A3, c3, vs, rfl, O.out, B3.out⟩
end Go.Proofs.Yteejfjgofpolkaa
