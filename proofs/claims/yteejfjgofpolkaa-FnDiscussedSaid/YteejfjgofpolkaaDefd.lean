/- What sets of arguments attack and defend: the walks. -/
import Derived.Test.YteejfjgofpolkaaDung
import Derived.Test.YteejfjgofpolkaaRounds
import Derived.Test.YteejfjgofpolkaaFrV
namespace Go.Proofs.Yteejfjgofpolkaa
set_option linter.unusedVariables false
set_option linter.unusedSimpArgs false
set_option maxRecDepth 100000
open Go.RowKit
theorem int_eq0 (r : Nat) : (((r : Nat) : Int) == 0) = decide (r = 0) := by by_cases h : r = 0 <;> simp [h]
theorem hitM_lt10 {n : Nat} {es : List (Nat × Nat)} (ok : FrOk n es) (m : Nat) : hitM es m < 1024 := pow10 ok.n10 (hitM_lt (fun p hp => (ok.inn p hp).2) m)
theorem FrOk.take {n : Nat} {es : List (Nat × Nat)} (ok : FrOk n es) (k : Nat) : ∀ p ∈ es.take k, p.1 < n ∧ p.2 < n := fun p hp => ok.inn p (List.mem_of_mem_take hp)
theorem attacked_ok (n : Nat) (es : List (Nat × Nat)) (ok : FrOk n es) (x : Nat) (hx : x < 1024) (A : Option Addr) (m c : Nat) (w : World) (h : Rws w A m c (es.map erow)) :
    Calls Try.prog 94 #[.agg #[.int .i64 n, .slice A m c], .int .i64 x] w fun e w' => e = .returned (.int .i64 (hitM es x : Nat)) ∧ Below w.heap.size w w' := by
  have b0 := bel_alloc w (.cells #[.int .i64 n, .slice A m c] 26)
  have C0 := Cs.new w [.int .i64 n, .slice A m c] 26
  have y1 := C0.cell 1 rfl
  have B0 := Lib.hid b0
  have H := Lib.hid (h.below b0)
  have n10 := ok.n10
  have OK := Lib.hid ok
  have hm := h.short
  have hlen : (es.map erow).length = m := h.1
  rw [List.length_map] at hlen
  have HL := Lib.hid hlen
  clear C0 b0 h ok hlen
  go_enter Try.func94, Try.ntmps94
  go_wp2_with fail
  clear y1
  go_loop [5, 11] (fun o t => ∃ k : Nat, k ≤ m ∧ t = .int .i64 k ∧ o = .int .i64 (hitM (es.take k) x : Nat)) (fun _ t => m - (intOf t).toNat)
  case atStart => exact ⟨0, Nat.zero_le _, rfl, by simp [hitM]⟩
  case round =>
    obtain ⟨k, hk, rfl, rfl⟩ := hrel
    by_cases hlt : k < m
    · obtain ⟨b, off, p, Ai, ci, rfl, hb, hp, hc, ip⟩ := erow_at H.out hlt
      have hpi := OK.out.inn p (List.mem_of_getElem? hp)
      obtain ⟨bA, oA, rfl, hbA, hcA⟩ := ip.2.2.2.2 (by omega)
      have a0 := hcA 0 (p.1 : Int) rfl
      have a1 := hcA 1 (p.2 : Int) rfl
      rw [Nat.add_zero] at a0
      have hh := pow10 n10 (hitM_lt (fun q hq => (OK.out.take k q hq).2) x)
      have E := Lib.hid (show hitM (es.take (k + 1)) x = if x.testBit p.1 = true then hitM (es.take k) x ||| 2 ^ p.2 else hitM (es.take k) x by rw [take_snoc' hp, hitM_snoc])
      obtain ⟨M, hM⟩ : ∃ r, hitM (es.take k) x = r := ⟨_, rfl⟩
      rw [hM] at hh E ⊢
      have hsl := shl_wrap (a := p.2) (by omega)
      have h2p := two_pow_lt (a := p.2) (by omega)
      have j0 : (0 : Int) ≤ (p.1 : Int) := by omega
      have j1 : (0 : Int) ≤ (p.2 : Int) := by omega
      have mn0 : min p.1 64 = p.1 := by omega
      have mn1 : min p.2 64 = p.2 := by omega
      cases hbit : x.testBit p.1
      · have hs := shr_zero (m := x) (i := p.1) (by omega) hbit
        rw [hbit] at E
        clear hcA ip hp hM hbit hpi
        go_wp2_with fail
        go_round
        case rel => exact ⟨k + 1, by omega, by go_num, by rw [E.out]; rfl⟩
        case measure => simp [intOf]; omega
      · have hs := shr_one (m := x) (i := p.1) (by omega) hbit
        have hor := i64_or M (2 ^ p.2) (by omega) (by omega)
        rw [show ((2 ^ p.2 : Nat) : Int) = (2 : Int) ^ p.2 by simp] at hor
        rw [hbit] at E
        clear hcA ip hp hM hbit hpi
        go_wp2_with fail
        go_round
        case rel => exact ⟨k + 1, by omega, by go_num, by rw [E.out]; rfl⟩
        case measure => simp [intOf]; omega
    · obtain rfl : k = m := by omega
      have E := Lib.hid (show hitM (es.take k) x = hitM es x by rw [List.take_of_length_le (by rw [HL.out]; exact Nat.le_refl _)])
      go_wp2_with fail
      go_ret
      exact ⟨by rw [E.out]; rfl, B0.out⟩
theorem mk_yes0 {p : Nat → Bool} {k : Nat} (h : p k = true) : mk p (k + 1) = mk p k ||| 2 ^ k := by simp [mk, h]
theorem defended_ok (n : Nat) (es : List (Nat × Nat)) (ok : FrOk n es) (x : Nat) (hx : x < 1024) (A : Option Addr) (m c : Nat) (w : World) (h : Rws w A m c (es.map erow)) :
    Calls Try.prog 92 #[.agg #[.int .i64 n, .slice A m c], .int .i64 x] w fun e w' => e = .returned (.int .i64 (dfdM n es x : Nat)) ∧ Below w.heap.size w w' := by
  have b0 := bel_alloc w (.cells #[.int .i64 n, .slice A m c] 26)
  have C0 := Cs.new w [.int .i64 n, .slice A m c] 26
  have y0 := C0.cell 0 rfl
  have y1 := C0.cell 1 rfl
  have B0 := Lib.hid b0
  have CF := Lib.hid C0
  have n10 := ok.n10
  have OK := Lib.hid ok
  have H := Lib.hid h
  have hh := hitM_lt10 ok x
  have D := Lib.hid (rfl : dfdM n es x = dfdM n es x)
  clear C0 b0 h ok
  go_enter Try.func92, Try.ntmps92
  go_wp2_with fail
  refine (attacked_ok n es OK.out x hx A m c _ (H.out.below B0.out)).mono ?_
  rintro e w1 ⟨rfl, b1⟩
  have B1 := Lib.hid (bel_trans B0.out b1)
  have C1 := CF.out.below b1
  have z0 := C1.cell 0 rfl
  have z1 := C1.cell 1 rfl
  clear b1 C1 y0 y1
  obtain ⟨hit, hhit⟩ : ∃ r, hitM es x = r := ⟨_, rfl⟩
  rw [hhit] at hh ⊢
  go_wp2_with fail
  refine (attackers_ok n es OK.out A m c _ (H.out.below B1.out)).mono ?_
  rintro e w2 ⟨A', c', rfl, oA, b2⟩
  have B2 := Lib.hid (bel_trans B1.out b2)
  have OA := Lib.hid oA
  clear oA b2
  go_wp2_with fail
  go_loop [5, 15] (fun o t => ∃ k : Nat, k ≤ n ∧ t = .int .i64 k ∧ o = .int .i64 (mk (fun a => decide (ldf (attM es a) hit = 0)) k : Nat)) (fun _ t => n - (intOf t).toNat)
  case atStart => exact ⟨0, Nat.zero_le _, rfl, by simp [mk]⟩
  case round =>
    obtain ⟨k, hk, rfl, rfl⟩ := hrel
    by_cases hlt : k < n
    · obtain ⟨gA, rfl, _, _⟩ := OA.out.form (by omega)
      have qa := OA.out.cell (attL_at es hlt)
      have hyb := attM_lt (n := 10) (es := es) (fun q hq => by have := (OK.out.inn q hq).1; omega) k
      have hd := decide_eq_true (show (k : Int) < (n : Int) by omega)
      have j0 : (0 : Int) ≤ (k : Int) := by omega
      have j1 : (k : Int) < (n : Int) := by omega
      have hmy := fun h => mk_yes0 (p := fun a => decide (ldf (attM es a) hit = 0)) (k := k) h
      have hmn := fun h => mk_no (p := fun a => decide (ldf (attM es a) hit = 0)) (k := k) h
      have hmk := pow10 (n := 10) (by omega) (Nat.lt_of_lt_of_le (mk_lt (fun a => decide (ldf (attM es a) hit = 0)) k) (Nat.pow_le_pow_right (by omega) (show k ≤ 10 by omega)))
      have hsl := shl_wrap (a := k) (by omega)
      have h2p := two_pow_lt (a := k) (by omega)
      obtain ⟨yb, hy⟩ : ∃ r, attM es k = r := ⟨_, rfl⟩
      rw [hy] at qa hyb
      have han := i64_andNot yb hit (by omega) (by omega)
      obtain ⟨M, hM⟩ : ∃ r, mk (fun a => decide (ldf (attM es a) hit = 0)) k = r := ⟨_, rfl⟩
      rw [hM] at hmk hmy ⊢
      obtain ⟨R, hR⟩ : ∃ r, ldf yb hit = r := ⟨_, rfl⟩
      rw [hR] at han
      have hq := int_eq0 R
      by_cases hz : R = 0
      · have hor := i64_or M (2 ^ k) (by omega) (by omega)
        rw [show ((2 ^ k : Nat) : Int) = (2 : Int) ^ k by simp] at hor
        have E := Lib.hid (hmy (by rw [hy, hR]; exact decide_eq_true hz))
        subst hz
        clear hmy hmn hy hM hR
        go_wp2_with fail
        go_round
        case rel => exact ⟨k + 1, by omega, by go_num, by rw [E.out]⟩
        case measure => simp [intOf]; omega
      · have E := Lib.hid ((hmn (by rw [hy, hR]; exact decide_eq_false hz)).trans hM)
        rw [decide_eq_false hz] at hq
        clear hmy hmn hy hM hR hz
        go_wp2_with fail
        go_round
        case rel => exact ⟨k + 1, by omega, by go_num, by rw [E.out]⟩
        case measure => simp [intOf]; omega
    · obtain rfl : k = n := by omega
      have E := Lib.hid (show mk (fun a => decide (ldf (attM es a) hit = 0)) k = dfdM k es x by rw [← hhit]; rfl)
      clear hhit
      go_wp2_with fail
      go_ret
      exact ⟨by rw [E.out]; rfl, B2.out⟩
theorem isFree_ok (n : Nat) (es : List (Nat × Nat)) (ok : FrOk n es) (x : Nat) (hx : x < 1024) (A : Option Addr) (m c : Nat) (w : World) (h : Rws w A m c (es.map erow)) :
    Calls Try.prog 91 #[.agg #[.int .i64 n, .slice A m c], .int .i64 x] w fun e w' => e = .returned (.bool (freeB es x)) ∧ Below w.heap.size w w' := by
  have b0 := bel_alloc w (.cells #[.int .i64 n, .slice A m c] 26)
  have C0 := Cs.new w [.int .i64 n, .slice A m c] 26
  have y0 := C0.cell 0 rfl
  have y1 := C0.cell 1 rfl
  have B0 := Lib.hid b0
  have H := Lib.hid h
  have OK := Lib.hid ok
  have hh := hitM_lt10 ok x
  have han := i64_and (hitM es x) x (by omega) (by omega)
  have hq := int_eq0 (hitM es x &&& x)
  have FR := Lib.hid (show freeB es x = decide (hitM es x &&& x = 0) from rfl)
  obtain ⟨hit, hhit⟩ : ∃ r, hitM es x = r := ⟨_, rfl⟩
  rw [hhit] at han hq FR hh
  obtain ⟨r, hr⟩ : ∃ r, hit &&& x = r := ⟨_, rfl⟩
  rw [hr] at han hq FR
  have HH := Lib.hid hhit
  clear C0 b0 h ok hhit hr
  go_enter Try.func91, Try.ntmps91
  go_wp2_with fail
  refine (attacked_ok n es OK.out x hx A m c _ (H.out.below B0.out)).mono ?_
  rintro e w1 ⟨rfl, b1⟩
  rw [HH.out]
  have B1 := Lib.hid (bel_trans B0.out b1)
  clear b1
  go_wp2_with fail
  go_ret
  exact ⟨by rw [FR.out]; rfl, B1.out⟩
theorem isGood_ok (n : Nat) (es : List (Nat × Nat)) (ok : FrOk n es) (x : Nat) (hx : x < 1024) (A : Option Addr) (m c : Nat) (w : World) (h : Rws w A m c (es.map erow)) :
    Calls Try.prog 84 #[.agg #[.int .i64 n, .slice A m c], .int .i64 x] w fun e w' => e = .returned (.bool (goodB n es x)) ∧ Below w.heap.size w w' := by
  have b0 := bel_alloc w (.cells #[.int .i64 n, .slice A m c] 26)
  have C0 := Cs.new w [.int .i64 n, .slice A m c] 26
  have y0 := C0.cell 0 rfl
  have y1 := C0.cell 1 rfl
  have B0 := Lib.hid b0
  have CF := Lib.hid C0
  have H := Lib.hid h
  have OK := Lib.hid ok
  have hd := pow10 ok.n10 (dfdM_lt n es x)
  have han := i64_andNot x (dfdM n es x) (by omega) (by omega)
  have hq := int_eq0 (ldf x (dfdM n es x))
  have GD := Lib.hid (show goodB n es x = (freeB es x && decide (ldf x (dfdM n es x) = 0)) from rfl)
  obtain ⟨d, hdd⟩ : ∃ r, dfdM n es x = r := ⟨_, rfl⟩
  rw [hdd] at han hq GD hd
  obtain ⟨r, hr⟩ : ∃ r, ldf x d = r := ⟨_, rfl⟩
  rw [hr] at han hq GD
  have HH := Lib.hid hdd
  clear C0 b0 h ok hdd hr
  go_enter Try.func84, Try.ntmps84
  go_wp2_with fail
  refine (isFree_ok n es OK.out x hx A m c _ (H.out.below B0.out)).mono ?_
  rintro e w1 ⟨rfl, b1⟩
  have B1 := Lib.hid (bel_trans B0.out b1)
  have C1 := CF.out.below b1
  have z0 := C1.cell 0 rfl
  have z1 := C1.cell 1 rfl
  clear b1 C1 y0 y1
  cases hf : freeB es x
  · rw [hf] at GD
    clear hf
    go_wp2_with fail
    go_ret
    exact ⟨by rw [GD.out]; rfl, B1.out⟩
  · rw [hf] at GD
    clear hf
    go_wp2_with fail
    refine (defended_ok n es OK.out x hx A m c _ (H.out.below B1.out)).mono ?_
    rintro e w2 ⟨rfl, b2⟩
    rw [HH.out]
    have B2 := Lib.hid (bel_trans B1.out b2)
    clear b2
    go_wp2_with fail
    go_ret
    exact ⟨by rw [GD.out]; rfl, B2.out⟩
theorem grounded_ok (n : Nat) (es : List (Nat × Nat)) (ok : FrOk n es) (A : Option Addr) (m c : Nat) (w : World) (h : Rws w A m c (es.map erow)) :
    Calls Try.prog 76 #[.agg #[.int .i64 n, .slice A m c]] w fun e w' => ∃ F, RFin n (attM es) F ∧ e = .returned (.int .i64 (accM n F : Nat)) ∧ Below w.heap.size w w' := by
  have b0 := bel_alloc w (.cells #[.int .i64 n, .slice A m c] 26)
  have C0 := Cs.new w [.int .i64 n, .slice A m c] 26
  have y0 := C0.cell 0 rfl
  have y1 := C0.cell 1 rfl
  have B0 := Lib.hid b0
  have H := Lib.hid h
  have n10 := ok.n10
  have OK := Lib.hid ok
  clear C0 b0 h ok
  go_enter Try.func76, Try.ntmps76
  go_wp2_with fail
  refine (rounds_ok n es OK.out A m c _ (H.out.below B0.out)).mono ?_
  rintro e w1 ⟨A', c', F, rfl, o, hF, b1⟩
  have B1 := Lib.hid (bel_trans B0.out b1)
  have O := Lib.hid o
  have HF := Lib.hid hF
  clear b1 o hF y0 y1
  go_wp2_with fail
  go_loop [3, 9] (fun a t => ∃ j : Nat, j ≤ n ∧ t = .int .i64 j ∧ a = .int .i64 (mk (fun a => decide (0 < F a)) j : Nat)) (fun _ t => n - (intOf t).toNat)
  case atStart => exact ⟨0, by omega, rfl, by simp [mk]⟩
  case round =>
    obtain ⟨j, hj, rfl, rfl⟩ := hrel
    by_cases hlt : j < n
    · obtain ⟨gA, rfl, _, _⟩ := O.out.form (by omega)
      have hd := decide_eq_true (show (j : Int) < (n : Int) by omega)
      have j0 : (0 : Int) ≤ (j : Int) := by omega
      have j1 : (j : Int) < (n : Int) := by omega
      have Oc := O.out.cell (lst_at _ hlt)
      have hm := pow10 (n := 10) (by omega) (Nat.lt_of_lt_of_le (mk_lt (fun a => decide (0 < F a)) j) (Nat.pow_le_pow_right (by omega) (show j ≤ 10 by omega)))
      have hsl := shl_wrap (a := j) (by omega)
      have h2p := two_pow_lt (a := j) (by omega)
      have hmy := fun h => mk_yes0 (p := fun a => decide (0 < F a)) (k := j) h
      have hmn := fun h => mk_no (p := fun a => decide (0 < F a)) (k := j) h
      obtain ⟨M, hMe⟩ : ∃ r, mk (fun a => decide (0 < F a)) j = r := ⟨_, rfl⟩
      rw [hMe] at hm hmy ⊢
      obtain ⟨z, hz⟩ : ∃ r, F j = r := ⟨_, rfl⟩
      rw [hz] at Oc
      by_cases hp : 0 < z
      · have hdz := decide_eq_true hp
        have hor := i64_or M (2 ^ j) (by omega) (by omega)
        rw [show ((2 ^ j : Nat) : Int) = (2 : Int) ^ j by simp] at hor
        have E := Lib.hid (hmy (by simpa [hz] using hp))
        clear hmy hmn hz hMe
        go_wp2_with fail
        go_round
        case rel => exact ⟨j + 1, by omega, by go_num, by rw [E.out]⟩
        case measure => simp [intOf]; omega
      · have hdz := decide_eq_false hp
        have E := Lib.hid ((hmn (by simpa [hz] using hp)).trans hMe)
        clear hmy hmn hz hMe
        go_wp2_with fail
        go_round
        case rel => exact ⟨j + 1, by omega, by go_num, by rw [E.out]⟩
        case measure => simp [intOf]; omega
    · obtain rfl : j = n := by omega
      go_wp2_with fail
      go_ret
      exact ⟨F, HF.out, rfl, B1.out⟩
theorem isArgument_any (cnt : Int) (hc1 : -9223372036854775808 ≤ cnt) (hc2 : cnt ≤ 9223372036854775807) (x : Int) (rows : List (List Int)) (A : Option Addr) (m c : Nat) (w : World) (h : Rws w A m c rows) :
    Calls Try.prog 59 #[.agg #[.int .i64 cnt, .slice A m c], .int .i64 x] w fun e w' => e = .returned (.bool (frB cnt rows && inR x 0 (cnt - 1))) ∧ Below w.heap.size w w' := by
  have b0 := bel_alloc w (.cells #[.int .i64 cnt, .slice A m c] 26)
  have C0 := Cs.new w [.int .i64 cnt, .slice A m c] 26
  have y0 := C0.cell 0 rfl
  have y1 := C0.cell 1 rfl
  have V := Lib.hid (validFrame_any cnt rows A m c _ (h.below b0))
  have HC := Lib.hid C0
  have B0 := Lib.hid b0
  clear h C0 b0
  cases hf : frB cnt rows
  · have HF := Lib.hid hf
    clear hf
    go_enter Try.func59, Try.ntmps59
    go_wp2_with fail
    refine V.out.mono ?_
    rintro e w1 ⟨rfl, b1⟩
    rw [HF.out]
    have B1 := Lib.hid (bel_trans B0.out b1)
    clear b1
    go_wp2_with fail
    go_ret
    exact ⟨rfl, B1.out⟩
  · obtain ⟨n, es, rfl, rfl, ok⟩ := frB_yes hf
    have n10 := ok.n10
    have HF := Lib.hid hf
    have ew : IntKind.i64.wrap ((n : Int) - 1) = (n : Int) - 1 := IntWalk.i64_in _ (by omega)
    clear hf ok
    go_enter Try.func59, Try.ntmps59
    go_wp2_with fail
    refine V.out.mono ?_
    rintro e w1 ⟨rfl, b1⟩
    rw [HF.out]
    have C1 := HC.out.below b1
    have z0 := C1.cell 0 rfl
    have z1 := C1.cell 1 rfl
    have B1 := Lib.hid (bel_trans B0.out b1)
    clear y0 y1 b1 C1
    obtain ⟨v, hv⟩ : ∃ v, inR x 0 ((n : Int) - 1) = v := ⟨_, rfl⟩
    have HV := Lib.hid hv
    clear hv
    go_wp2_with fail
    refine (within_v HV.out _).mono ?_
    rintro e w2 ⟨rfl, rfl⟩
    go_wp2_with fail
    go_ret
    exact ⟨by rw [HV.out]; rfl, B1.out⟩
end Go.Proofs.Yteejfjgofpolkaa
