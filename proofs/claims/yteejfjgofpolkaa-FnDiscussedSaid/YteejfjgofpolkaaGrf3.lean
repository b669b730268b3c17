/- The reference's rounds. -/
import Derived.Test.YteejfjgofpolkaaGrf2
import Derived.Test.YteejfjgofpolkaaRnd2
namespace Go.Proofs.Yteejfjgofpolkaa
set_option linter.unusedVariables false
set_option linter.unusedSimpArgs false
set_option maxRecDepth 100000
open Go.RowKit Go.Deep
theorem lst_replicate (n : Nat) : List.replicate n (0 : Int) = lst n (fun _ => 0) := by unfold lst; rw [List.map_const', List.length_range]
theorem int_eqz (z : Int) : (z == 0) = decide (z = 0) := rfl
set_option maxHeartbeats 4000000 in
theorem specRounds_ok (n : Nat) (es : List (Nat × Nat)) (ok : FrOk n es) (g : Nat) (w : World) (h : Gr w g n es) :
    Calls Try.prog 73 #[.pointer (some ⟨g, 0, none⟩)] w fun e w' => ∃ A' c' F, e = .returned (.slice A' n c') ∧ OwnI w' w.heap.size A' n c' (lst n F) ∧ RFin n (attM es) F ∧ Below w.heap.size w w' := by
  have H := Lib.hid h
  obtain ⟨A, d, B, e, C, HA, HB⟩ := h
  have y0 := C.cell 0 rfl
  have HC := Lib.hid C
  have IB := Lib.hid HB
  have n10 := ok.n10
  have OK := Lib.hid ok
  have HBY := Lib.hid (fun a => attM_lt (n := 10) (es := es) (fun q hq => by have := (ok.inn q hq).1; omega) a)
  have HBN := Lib.hid (fun a b (hb : (attM es a).testBit b = true) => (ok.inn _ ((attM_bit es a b).1 hb)).1)
  have hmk := fun W => run_make_row' (P := Try.prog) 28 2 (.int .i64 0) 8 Try.underlying28 info_int rfl .i64 .i64 n (by omega) (by omega) W
  have b1 := bel_alloc w (.cells (madeCells #[.int .i64 0] n) 2)
  have O1 := zeros_own w n n10
  rw [lst_replicate] at O1
  have y1 := (C.below b1).cell 0 rfl
  have OOUT := Lib.hid O1
  have B1 := Lib.hid b1
  clear C HA HB ok O1 b1
  go_enter Try.func73, Try.ntmps73
  go_wp2_with fail
  clear y0 y1 hmk
  go_loopw [4, 5, 6] (fun i gn t wr => ∃ (k : Nat) (F : Nat → Int), 1 ≤ k ∧ k ≤ n + 1 ∧ t = .int .i64 k ∧ i = .int .i64 (accM n F : Nat) ∧ gn = .int .i64 (rejM n F : Nat) ∧ OwnI wr w.heap.size (some ⟨w.heap.size, 0, none⟩) n n (lst n F) ∧ Below w.heap.size w wr ∧ Hid (RSt n (attM es) F k)) (fun _ _ t _ => n + 1 - (intOf t).toNat)
  case atStart => exact ⟨1, fun _ => 0, by omega, by omega, rfl, by rw [accM_zero]; rfl, by rw [rejM_zero]; rfl, OOUT.out, B1.out, RSt.start n _⟩
  case round =>
    obtain ⟨k, F, hk1, hkn, rfl, rfl, rfl, hO, hB, RS⟩ := hrel
    have HO := Lib.hid hO
    have HB := Lib.hid hB
    clear hO hB OOUT B1
    have g0 := (HC.out.below HB.out).cell 0 rfl
    by_cases hkl : k ≤ n
    · have hd : decide ((k : Int) ≤ (n : Int)) = true := decide_eq_true (by omega)
      have kp : (0 : Int) < (k : Int) := by omega
      have ba := pow10 n10 (mk_lt (fun a => decide (0 < F a)) n)
      have br := pow10 n10 (mk_lt (fun a => decide (F a < 0)) n)
      change accM n F < 1024 at ba
      change rejM n F < 1024 at br
      have NX := Lib.hid (RS.out.next HBY.out HBN.out n10 (by omega) (by omega))
      have AN := Lib.hid (acc_new (n := n) (by_ := attM es) (F := F) kp)
      have RR := Lib.hid (rej_step (n := n) (by_ := attM es) (F := F) kp)
      have S1D : Hid (∀ j, st1 n (attM es) F k j = if F j = 0 ∧ ldf (attM es j) (rejM n F) = 0 then (k : Int) else F j) := fun j => rfl
      obtain ⟨F1, hF1⟩ : ∃ G, st1 n (attM es) F k = G := ⟨_, rfl⟩
      have NXD : Hid (nxt n (attM es) F k = st2 n (attM es) F1 k) := by show _ = _; rw [← hF1]; rfl
      rw [hF1] at AN RR S1D
      rw [NXD.out] at NX
      obtain ⟨ac, hac⟩ : ∃ r, accM n F = r := ⟨_, rfl⟩
      obtain ⟨rj, hrj⟩ : ∃ r, rejM n F = r := ⟨_, rfl⟩
      rw [hac] at ba AN ⊢
      rw [hrj] at br AN S1D RR ⊢
      clear hac hrj hF1 NXD RS
      go_wp2_with fail
      go_loopw [7, 8] (fun x t wr => ∃ j : Nat, j ≤ n ∧ t = .int .i64 j ∧ x = .int .i64 (ac ||| mk (fun a => decide (F a = 0 ∧ ldf (attM es a) rj = 0)) j : Nat) ∧ OwnI wr w.heap.size (some ⟨w.heap.size, 0, none⟩) n n (lst n (fun a => if a < j then F1 a else F a)) ∧ Below w.heap.size w wr) (fun _ t _ => n - (intOf t).toNat)
      case atStart => exact ⟨0, by omega, rfl, by simp [mk], by rw [lst_zero]; exact HO.out, HB.out⟩
      case round =>
        obtain ⟨j, hj, rfl, rfl, hO, hB⟩ := hrel
        have O2 := Lib.hid hO
        have B2 := Lib.hid hB
        clear hO hB HO HB g0
        have g0 := (HC.out.below B2.out).cell 0 rfl
        by_cases hlt : j < n
        · have g2 := (HC.out.below B2.out).cell 2 rfl
          have hm := pow10 (n := 10) (by omega) (Nat.lt_of_lt_of_le (mk_lt (fun a => decide (F a = 0 ∧ ldf (attM es a) rj = 0)) j) (Nat.pow_le_pow_right (by omega) (show j ≤ 10 by omega)))
          have hM := Nat.or_lt_two_pow (n := 10) (x := ac) (y := mk (fun a => decide (F a = 0 ∧ ldf (attM es a) rj = 0)) j) (by omega) (by omega)
          have hmy := fun h => mk_yes (p := fun a => decide (F a = 0 ∧ ldf (attM es a) rj = 0)) (k := j) ac h
          have hmn := fun h => mk_no (p := fun a => decide (F a = 0 ∧ ldf (attM es a) rj = 0)) (k := j) h
          obtain ⟨M, hMe⟩ : ∃ r, ac ||| mk (fun a => decide (F a = 0 ∧ ldf (attM es a) rj = 0)) j = r := ⟨_, rfl⟩
          rw [hMe] at hM hmy ⊢
          have hsl := shl_wrap (a := j) (by omega)
          have h2p := two_pow_lt (a := j) (by omega)
          have mn0 : min j 64 = j := by omega
          have hdj := decide_eq_true (show (j : Int) < (n : Int) by omega)
          have j0 : (0 : Int) ≤ (j : Int) := by omega
          have j1 : (j : Int) < (n : Int) := by omega
          have O2c := O2.out.cell (lst_at _ hlt)
          rw [if_neg (Nat.lt_irrefl j)] at O2c
          have O2f := O2.out.free j
          have hyb := HBY.out j
          have sd := S1D.out j
          have hz0 := int_eqz (F j)
          obtain ⟨bB, oB, eB, qa⟩ := (IB.out.below B2.out).get (attL_at es hlt)
          subst eB
          obtain ⟨yb, hy⟩ : ∃ r, attM es j = r := ⟨_, rfl⟩
          rw [hy] at qa hyb sd
          have han := i64_andNot yb rj (by omega) (by omega)
          have hor := i64_or M (2 ^ j) (by omega) (by omega)
          rw [show ((2 ^ j : Nat) : Int) = (2 : Int) ^ j by simp] at hor
          by_cases h0 : F j = 0
          · rw [decide_eq_true h0] at hz0
            have hq := int_eq0 (ldf yb rj)
            by_cases hz : ldf yb rj = 0
            · rw [decide_eq_true hz] at hq
              rw [if_pos ⟨h0, hz⟩] at sd
              have E := Lib.hid (lst_put (n := n) (F := F) (G := F1) sd)
              have EM := Lib.hid (hmy (by rw [hy]; exact decide_eq_true ⟨h0, hz⟩))
              have ST := Lib.hid (O2.out.set j (k : Int) (by omega) (by omega)).1
              have SB := Lib.hid (B2.out.setCell (p := ⟨w.heap.size, j, none⟩) (Nat.le_refl _) (.int .i64 k))
              rw [hz] at han hq
              clear hy sd h0 hz hmy hmn hMe
              go_wp2_with fail
              go_roundw
              case rel => exact ⟨j + 1, by omega, by go_num, by rw [EM.out], by rw [← E.out]; exact ST.out, SB.out⟩
              case measure => simp [intOf]; omega
            · rw [decide_eq_false hz] at hq
              rw [if_neg (fun hh => hz hh.2)] at sd
              have E := Lib.hid (lst_go (n := n) (F := F) (G := F1) sd.symm)
              have EM := Lib.hid (show ac ||| mk (fun a => decide (F a = 0 ∧ ldf (attM es a) rj = 0)) (j + 1) = M by rw [hmn (by rw [hy]; exact decide_eq_false fun hh => hz hh.2), hMe])
              clear hy sd h0 hz hmy hmn hMe
              go_wp2_with fail
              go_roundw
              case rel => exact ⟨j + 1, by omega, by go_num, by rw [EM.out], by rw [← E.out]; exact O2.out, B2.out⟩
              case measure => simp [intOf]; omega
          · rw [decide_eq_false h0] at hz0
            rw [if_neg (fun hh => h0 hh.1)] at sd
            have E := Lib.hid (lst_go (n := n) (F := F) (G := F1) sd.symm)
            have EM := Lib.hid (show ac ||| mk (fun a => decide (F a = 0 ∧ ldf (attM es a) rj = 0)) (j + 1) = M by rw [hmn (by exact decide_eq_false fun hh => h0 hh.1), hMe])
            clear hy sd h0 hmy hmn hMe
            go_wp2_with fail
            go_roundw
            case rel => exact ⟨j + 1, by omega, by go_num, by rw [EM.out], by rw [← E.out]; exact O2.out, B2.out⟩
            case measure => simp [intOf]; omega
        · obtain rfl : j = n := by omega
          have O3 : Hid (OwnI wr w.heap.size (some ⟨w.heap.size, 0, none⟩) j j (lst j F1)) := by show OwnI _ _ _ _ _ _; have := O2.out; rwa [lst_end] at this
          rw [AN.out]
          have hdj := decide_eq_false (show ¬ (j : Int) < (j : Int) by omega)
          have ba1 := pow10 n10 (mk_lt (fun a => decide (0 < F1 a)) j)
          change accM j F1 < 1024 at ba1
          have RN := Lib.hid (rej_new (n := j) (by_ := attM es) (F := F1) kp)
          have A2 := Lib.hid (acc_step2 (n := j) (by_ := attM es) (F := F1) kp)
          have S2D : Hid (∀ i, st2 j (attM es) F1 k i = if F1 i = 0 ∧ attM es i &&& accM j F1 ≠ 0 then -(k : Int) else F1 i) := fun i => rfl
          rw [← RR.out] at RN
          obtain ⟨F2, hF2⟩ : ∃ G, st2 j (attM es) F1 k = G := ⟨_, rfl⟩
          rw [hF2] at A2 RN S2D NX
          obtain ⟨a1, ha1⟩ : ∃ r, accM j F1 = r := ⟨_, rfl⟩
          rw [ha1] at ba1 A2 S2D RN ⊢
          have HAND := Lib.hid (fun i => hit_and es a1 i)
          have HHL := hitM_lt10 OK.out a1
          have HIT := Lib.hid (hit_ok j es OK.out a1 ba1 g wr (H.out.below B2.out))
          have ew : IntKind.i64.wrap (-(k : Int)) = -(k : Int) := IntWalk.i64_in _ (by omega)
          obtain ⟨ht, hht⟩ : ∃ r, hitM es a1 = r := ⟨_, rfl⟩
          rw [hht] at HAND HHL HIT
          clear hF2 ha1 hht AN O2 S1D
          go_wp2_with fail
          refine HIT.out.mono ?_
          rintro e w5 ⟨rfl, rfl⟩
          clear HIT
          go_wp2_with fail
          go_loopw [5, 10] (fun x t wr => ∃ i : Nat, i ≤ j ∧ t = .int .i64 i ∧ x = .int .i64 (rj ||| mk (fun a => decide (F1 a = 0 ∧ attM es a &&& a1 ≠ 0)) i : Nat) ∧ OwnI wr w.heap.size (some ⟨w.heap.size, 0, none⟩) j j (lst j (fun a => if a < i then F2 a else F1 a)) ∧ Below w.heap.size w wr) (fun _ t _ => j - (intOf t).toNat)
          case atStart => exact ⟨0, by omega, rfl, by simp [mk], by rw [lst_zero]; exact O3.out, B2.out⟩
          case round =>
            obtain ⟨i, hi, rfl, rfl, hO, hB⟩ := hrel
            have O4 := Lib.hid hO
            have B4 := Lib.hid hB
            clear hO hB O3 B2 g0
            have g0 := (HC.out.below B4.out).cell 0 rfl
            by_cases hlt : i < j
            · have hm := pow10 (n := 10) (by omega) (Nat.lt_of_lt_of_le (mk_lt (fun a => decide (F1 a = 0 ∧ attM es a &&& a1 ≠ 0)) i) (Nat.pow_le_pow_right (by omega) (show i ≤ 10 by omega)))
              have hM := Nat.or_lt_two_pow (n := 10) (x := rj) (y := mk (fun a => decide (F1 a = 0 ∧ attM es a &&& a1 ≠ 0)) i) (by omega) (by omega)
              have hmy := fun h => mk_yes (p := fun a => decide (F1 a = 0 ∧ attM es a &&& a1 ≠ 0)) (k := i) rj h
              have hmn := fun h => mk_no (p := fun a => decide (F1 a = 0 ∧ attM es a &&& a1 ≠ 0)) (k := i) h
              obtain ⟨M, hMe⟩ : ∃ r, rj ||| mk (fun a => decide (F1 a = 0 ∧ attM es a &&& a1 ≠ 0)) i = r := ⟨_, rfl⟩
              rw [hMe] at hM hmy ⊢
              have hsl := shl_wrap (a := i) (by omega)
              have h2p := two_pow_lt (a := i) (by omega)
              have mn0 : min i 64 = i := by omega
              have hdi := decide_eq_true (show (i : Int) < (j : Int) by omega)
              have j0 : (0 : Int) ≤ (i : Int) := by omega
              have j1 : (i : Int) < (j : Int) := by omega
              have O4c := O4.out.cell (lst_at _ hlt)
              rw [if_neg (Nat.lt_irrefl i)] at O4c
              have O4f := O4.out.free i
              have sd := S2D.out i
              have hz0 := int_eqz (F1 i)
              have hor := i64_or M (2 ^ i) (by omega) (by omega)
              rw [show ((2 ^ i : Nat) : Int) = (2 : Int) ^ i by simp] at hor
              by_cases h0 : F1 i = 0
              · rw [decide_eq_true h0] at hz0
                by_cases hz : attM es i &&& a1 ≠ 0
                · rw [if_pos ⟨h0, hz⟩] at sd
                  have HV := Lib.hid ((HAND.out i).trans (decide_eq_true hz))
                  have E := Lib.hid (lst_put (n := j) (F := F1) (G := F2) sd)
                  have EM := Lib.hid (hmy (decide_eq_true ⟨h0, hz⟩))
                  have ST := Lib.hid (O4.out.set i (-(k : Int)) (by omega) (by omega)).1
                  have SB := Lib.hid (B4.out.setCell (p := ⟨w.heap.size, i, none⟩) (Nat.le_refl _) (.int .i64 (-(k : Int))))
                  clear sd h0 hz hmy hmn hMe
                  go_wp2_with fail
                  refine (l08In_v HV.out HHL (by omega) _).mono ?_
                  rintro e w6 ⟨rfl, rfl⟩
                  go_wp2_with fail
                  go_roundw
                  case rel => exact ⟨i + 1, by omega, by go_num, by rw [EM.out], by rw [← E.out]; exact ST.out, SB.out⟩
                  case measure => simp [intOf]; omega
                · rw [if_neg (fun hh => hz hh.2)] at sd
                  have HV := Lib.hid ((HAND.out i).trans (decide_eq_false hz))
                  have E := Lib.hid (lst_go (n := j) (F := F1) (G := F2) sd.symm)
                  have EM := Lib.hid (show rj ||| mk (fun a => decide (F1 a = 0 ∧ attM es a &&& a1 ≠ 0)) (i + 1) = M by rw [hmn (decide_eq_false fun hh => hz hh.2), hMe])
                  clear sd h0 hz hmy hmn hMe
                  go_wp2_with fail
                  refine (l08In_v HV.out HHL (by omega) _).mono ?_
                  rintro e w6 ⟨rfl, rfl⟩
                  go_wp2_with fail
                  go_roundw
                  case rel => exact ⟨i + 1, by omega, by go_num, by rw [EM.out], by rw [← E.out]; exact O4.out, B4.out⟩
                  case measure => simp [intOf]; omega
              · rw [decide_eq_false h0] at hz0
                rw [if_neg (fun hh => h0 hh.1)] at sd
                have E := Lib.hid (lst_go (n := j) (F := F1) (G := F2) sd.symm)
                have EM := Lib.hid (show rj ||| mk (fun a => decide (F1 a = 0 ∧ attM es a &&& a1 ≠ 0)) (i + 1) = M by rw [hmn (decide_eq_false fun hh => h0 hh.1), hMe])
                clear sd h0 hmy hmn hMe
                go_wp2_with fail
                go_roundw
                case rel => exact ⟨i + 1, by omega, by go_num, by rw [EM.out], by rw [← E.out]; exact O4.out, B4.out⟩
                case measure => simp [intOf]; omega
            · obtain rfl : i = j := by omega
              have hdi := decide_eq_false (show ¬ (i : Int) < (i : Int) by omega)
              obtain ⟨G, g1, g2, g3, g4⟩ := NX.out
              have O5 : Hid (OwnI wr w.heap.size (some ⟨w.heap.size, 0, none⟩) i i (lst i G)) := by show OwnI _ _ _ _ _ _; have := O4.out; rw [lst_end] at this; rw [← g2]; exact this
              have EA := Lib.hid (A2.out.trans g3)
              have ER := Lib.hid (RN.out.trans g4)
              have GS := Lib.hid g1
              clear g1 g2 g3 g4 NX
              go_wp2_with fail
              go_roundw
              case rel => exact ⟨k + 1, G, by omega, by omega, by go_num, by rw [EA.out], by rw [ER.out], O5.out, B4.out, GS.out⟩
              case measure => simp [intOf]; omega
    · obtain rfl : k = n + 1 := by omega
      have hd : decide (((n + 1 : Nat) : Int) ≤ (n : Int)) = false := decide_eq_false (by omega)
      have FF := Lib.hid (RS.out.fin n10)
      go_wp2_with fail
      go_ret
      exact ⟨_, _, F, rfl, HO.out, FF.out, HB.out⟩
theorem specGrounded_ok (n : Nat) (es : List (Nat × Nat)) (ok : FrOk n es) (g : Nat) (w : World) (h : Gr w g n es) :
    Calls Try.prog 86 #[.pointer (some ⟨g, 0, none⟩)] w fun e w' => ∃ F, RFin n (attM es) F ∧ e = .returned (.int .i64 (accM n F : Nat)) ∧ Below w.heap.size w w' := by
  have H := Lib.hid h
  have n10 := ok.n10
  have OK := Lib.hid ok
  clear h ok
  go_enter Try.func86, Try.ntmps86
  go_wp2_with fail
  refine (specRounds_ok n es OK.out g _ H.out).mono ?_
  rintro e w1 ⟨A', c', F, rfl, o, hF, b1⟩
  have B1 := Lib.hid b1
  have O := Lib.hid o
  have HF := Lib.hid hF
  have H1 := H.out.below b1
  obtain ⟨A, d, B, e, C, HA, HB⟩ := H1
  have y0 := C.cell 0 rfl
  clear b1 o hF C HA HB
  go_wp2_with fail
  go_loop [3, 5] (fun a t => ∃ j : Nat, j ≤ n ∧ t = .int .i64 j ∧ a = .int .i64 (mk (fun a => decide (0 < F a)) j : Nat)) (fun _ t => n - (intOf t).toNat)
  case atStart => exact ⟨0, by omega, rfl, by simp [mk]⟩
  case round =>
    obtain ⟨j, hj, rfl, rfl⟩ := hrel
    by_cases hlt : j < n
    · obtain ⟨gA, rfl, _, _⟩ := O.out.form (by omega)
      have hd := decide_eq_true (show (j : Int) < (n : Int) by omega)
      have j0 : (0 : Int) ≤ (j : Int) := by omega
      have j1 : (j : Int) < (n : Int) := by omega
      have mn0 : min j 64 = j := by omega
      have Oc := O.out.cell (lst_at _ hlt)
      have hm := pow10 (n := 10) (by omega) (Nat.lt_of_lt_of_le (mk_lt (fun a => decide (0 < F a)) j) (Nat.pow_le_pow_right (by omega) (show j ≤ 10 by omega)))
      have hsl := shl_wrap (a := j) (by omega)
      have h2p := two_pow_lt (a := j) (by omega)
      have hmy := fun h => mk_yes0 (p := fun a => decide (0 < F a)) (k := j) h
      have hmn := fun h => mk_no (p := fun a => decide (0 < F a)) (k := j) h
      obtain ⟨M, hMe⟩ : ∃ r, mk (fun a => decide (0 < F a)) j = r := ⟨_, rfl⟩
      rw [hMe] at hm hmy ⊢
      obtain ⟨z, hz⟩ : ∃ r, F j = r := ⟨_, rfl⟩
      rw [hz] at Oc
      by_cases hp : 0 < z
      · have hdz := decide_eq_true hp
        have hor := i64_or M (2 ^ j) (by omega) (by omega)
        rw [show ((2 ^ j : Nat) : Int) = (2 : Int) ^ j by simp] at hor
        have E := Lib.hid (hmy (by simpa [hz] using hp))
        clear hmy hmn hz hMe
        go_wp2_with fail
        go_round
        case rel => exact ⟨j + 1, by omega, by go_num, by rw [E.out]⟩
        case measure => simp [intOf]; omega
      · have hdz := decide_eq_false hp
        have E := Lib.hid ((hmn (by simpa [hz] using hp)).trans hMe)
        clear hmy hmn hz hMe
        go_wp2_with fail
        go_round
        case rel => exact ⟨j + 1, by omega, by go_num, by rw [E.out]⟩
        case measure => simp [intOf]; omega
    · obtain rfl : j = n := by omega
      have hd := decide_eq_false (show ¬ (j : Int) < (j : Int) by omega)
      go_wp2_with fail
      go_ret
      exact ⟨F, HF.out, rfl, B1.out⟩
theorem l08Has_any (cnt : Int) (x : Int) (rows : List (List Int)) (g : Nat) (A : Option Addr) (m c : Nat) (w : World) (C0 : Cs w g [.int .i64 cnt, .slice A m c]) (h : Rws w A m c rows) :
    Calls Try.prog 72 #[.pointer (some ⟨g, 0, none⟩), .int .i64 x] w fun e w' => e = .returned (.bool (frB cnt rows && inR x 0 (cnt - 1))) ∧ Below w.heap.size w w' := by
  have V := Lib.hid (l08Is_any cnt rows g A m c _ C0 h)
  have HC := Lib.hid C0
  clear h C0
  cases hf : frB cnt rows
  · have HF := Lib.hid hf
    clear hf
    go_enter Try.func72, Try.ntmps72
    go_wp2_with fail
    refine V.out.mono ?_
    rintro e w1 ⟨rfl, b1⟩
    rw [HF.out]
    have B1 := Lib.hid b1
    clear b1
    go_wp2_with fail
    go_ret
    exact ⟨rfl, B1.out⟩
  · obtain ⟨n, es, rfl, rfl, ok⟩ := frB_yes hf
    have n10 := ok.n10
    have HF := Lib.hid hf
    have ew : IntKind.i64.wrap ((n : Int) - 1) = (n : Int) - 1 := IntWalk.i64_in _ (by omega)
    clear hf ok
    go_enter Try.func72, Try.ntmps72
    go_wp2_with fail
    refine V.out.mono ?_
    rintro e w1 ⟨rfl, b1⟩
    rw [HF.out]
    have z0 := (HC.out.below b1).cell 0 rfl
    have B1 := Lib.hid b1
    clear b1
    obtain ⟨v, hv⟩ : ∃ v, inR x 0 ((n : Int) - 1) = v := ⟨_, rfl⟩
    have HV := Lib.hid hv
    clear hv
    go_wp2_with fail
    refine (l00In_w HV.out _).mono ?_
    rintro e w2 ⟨rfl, rfl⟩
    go_wp2_with fail
    go_ret
    exact ⟨by rw [HV.out]; rfl, B1.out⟩
end Go.Proofs.Yteejfjgofpolkaa
