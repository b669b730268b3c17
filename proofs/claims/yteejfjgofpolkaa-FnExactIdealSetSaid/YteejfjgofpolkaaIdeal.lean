/- The ideal set, on both sides. -/
import Derived.Test.YteejfjgofpolkaaStand
import Derived.Test.YteejfjgofpolkaaOnes
namespace Go.Proofs.Yteejfjgofpolkaa
set_option linter.unusedVariables false
set_option linter.unusedSimpArgs false
set_option maxRecDepth 100000
open Go.RowKit Go.Deep
theorem l08List_ok (m : Nat) (hm : m < 1024) (w : World) :
    Calls Try.prog 81 #[.int .i64 m] w fun e w' => ∃ A c, e = .returned (.slice A (bitsTo m 10).length c) ∧ OwnI w' w.heap.size A (bitsTo m 10).length c (bitsTo m 10) ∧ Below w.heap.size w w' := by
  have O0 := Lib.hid (ownI_lit w)
  have B0 := Lib.hid (bel_alloc w (.cells #[] 2))
  go_enter Try.func81, Try.ntmps81
  go_wp2_with fail
  go_loopw [3, 4] (fun s t wr => ∃ (i : Nat) (A : Option Addr) (c : Nat), i ≤ 10 ∧ t = .int .i64 i ∧ s = .slice A (bitsTo m i).length c ∧ OwnI wr w.heap.size A (bitsTo m i).length c (bitsTo m i) ∧ Below w.heap.size w wr) (fun _ t _ => 10 - (intOf t).toNat)
  case atStart => exact ⟨0, _, _, Nat.zero_le _, rfl, rfl, O0.out, B0.out⟩
  case round =>
    obtain ⟨i, A, c, hi, rfl, rfl, hO, hB⟩ := hrel
    have HO := Lib.hid hO
    have HB := Lib.hid hB
    clear hO hB O0 B0
    have hl := bitsTo_len m i
    have hs := HB.out.size
    by_cases h10 : i < 10
    · have hd : decide ((i : Int) < 10) = true := decide_eq_true (by omega)
      obtain ⟨v, hv⟩ : ∃ v, m.testBit i = v := ⟨_, rfl⟩
      have HV := Lib.hid hv
      have BS := bitsTo_succ m i
      rw [hv] at BS
      clear hv
      go_wp2_with fail
      refine (l08In_v HV.out hm (by omega) _).mono ?_
      rintro e w1 ⟨rfl, rfl⟩
      cases v
      · have E := Lib.hid (show bitsTo m (i + 1) = bitsTo m i by rw [BS]; simp)
        clear BS
        go_wp2_with fail
        go_roundw
        case rel => exact ⟨i + 1, A, c, by omega, by go_num, by rw [E.out], by rw [E.out]; exact HO.out, HB.out⟩
        case measure => simp [intOf]; omega
      · have E := Lib.hid (show bitsTo m (i + 1) = bitsTo m i ++ [(i : Int)] by rw [BS]; simp)
        clear BS
        go_wp2_with (at_builtin; refine app_int_at wr rfl _ _ rfl w.heap.size A (bitsTo m i).length c (bitsTo m i) rfl HO.out (i : Int) (by omega) (by omega) rfl (by omega) hs ?_; intro A7 c7 w7 p1 p2 p3; have P1 := Lib.hid p1; have B7 := Lib.hid (HB.out.grown p2 hs (fun x hx => (HO.out.block x hx).1)); clear p1 p2 p3)
        go_roundw
        case rel => exact ⟨i + 1, A7, c7, by omega, by go_num, by rw [E.out]; simp, by rw [E.out]; simpa using P1.out, B7.out⟩
        case measure => simp [intOf]; omega
    · obtain rfl : i = 10 := by omega
      go_wp2_with fail
      go_ret
      exact ⟨A, c, rfl, HO.out, HB.out⟩
theorem idealI_no (cnt : Int) (rows : List (List Int)) (hv : frB cnt rows = false) (A : Option Addr) (m c : Nat) (w : World) (h : Rws w A m c rows) :
    Calls Try.prog 34 #[.agg #[.int .i64 cnt, .slice A m c]] w fun e w' => e = .returned (.tuple #[.slice none 0 0, .bool false]) ∧ Below w.heap.size w w' := by
  have b0 := bel_alloc w (.cells #[.int .i64 cnt, .slice A m c] 26)
  have C0 := Cs.new w [.int .i64 cnt, .slice A m c] 26
  have y0 := C0.cell 0 rfl
  have y1 := C0.cell 1 rfl
  have V := Lib.hid (validFrame_any cnt rows A m c _ (h.below b0))
  rw [hv] at V
  have B0 := Lib.hid b0
  clear h C0 b0 hv
  go_enter Try.func34, Try.ntmps34
  go_wp2_with fail
  refine V.out.mono ?_
  rintro e w1 ⟨rfl, b1⟩
  have B1 := Lib.hid (bel_trans B0.out b1)
  clear b1
  go_wp2_with fail
  exact bodyPost_ret (v := .tuple #[.slice none 0 0, .bool false]) (by simp [results, Try.results34, go_sem]) rfl ⟨rfl, B1.out⟩
theorem idealS_no (cnt : Int) (rows : List (List Int)) (hv : frB cnt rows = false) (A : Option Addr) (m c : Nat) (w : World) (h : Rws w A m c rows) :
    Calls Try.prog 33 #[.agg #[.int .i64 cnt, .slice A m c]] w fun e w' => e = .returned (.tuple #[.slice none 0 0, .bool false]) ∧ Below w.heap.size w w' := by
  have b0 := bel_alloc w (.cells #[.int .i64 cnt, .slice A m c] 26)
  have C0 := Cs.new w [.int .i64 cnt, .slice A m c] 26
  have V := Lib.hid (l08Is_any cnt rows _ A m c _ C0 (h.below b0))
  rw [hv] at V
  have B0 := Lib.hid b0
  clear h C0 b0 hv
  go_enter Try.func33, Try.ntmps33
  go_wp2_with fail
  refine V.out.mono ?_
  rintro e w1 ⟨rfl, b1⟩
  have B1 := Lib.hid (bel_trans B0.out b1)
  clear b1
  go_wp2_with fail
  exact bodyPost_ret (v := .tuple #[.slice none 0 0, .bool false]) (by simp [results, Try.results33, go_sem]) rfl ⟨rfl, B1.out⟩
def GivesS (zs : List Int) (b : Bool) (w : World) (e : Ending) (w' : World) : Prop := ∃ A c, e = .returned (.tuple #[.slice A zs.length c, .bool b]) ∧ OwnI w' w.heap.size A zs.length c zs ∧ Below w.heap.size w w'
set_option maxHeartbeats 2000000 in
theorem idealI_ok (n : Nat) (es : List (Nat × Nat)) (ok : FrOk n es) (hv : frB n (es.map erow) = true) (A : Option Addr) (m c : Nat) (w : World) (h : Rws w A m c (es.map erow)) :
    Calls Try.prog 34 #[.agg #[.int .i64 n, .slice A m c]] w (GivesS (bitsTo (idlM n es) 10) true w) := by
  have b0 := bel_alloc w (.cells #[.int .i64 n, .slice A m c] 26)
  have C0 := Cs.new w [.int .i64 n, .slice A m c] 26
  have y0 := C0.cell 0 rfl
  have y1 := C0.cell 1 rfl
  have n10 := ok.n10
  have V := Lib.hid (validFrame_any n (es.map erow) A m c _ (h.below b0))
  rw [hv] at V
  have OK := Lib.hid ok
  have H := Lib.hid h
  have HC := Lib.hid C0
  have B0 := Lib.hid b0
  have LB := Lib.hid (fun (j m : Nat) (hj : (prefM n es)[j]? = some m) => prefM_lt ok hj)
  have hlen := prefM_len ok
  have CD := Lib.hid (show comM n ((prefM n es).take (prefM n es).length) = comM n (prefM n es) by rw [List.take_length])
  have PR := Lib.hid (fun W hW => preferred_ok n es ok A m c W (h.below (w := w) hW))
  have cl := pow10 n10 (comM_lt n (prefM n es))
  have IY := Lib.hid (fun l best x => IdlInv.yes (l := l) (best := best) (x := x) ok)
  have IN := Lib.hid (fun l best x => IdlInv.no (l := l) (best := best) (x := x) ok)
  obtain ⟨C, hC⟩ : ∃ r, comM n (prefM n es) = r := ⟨_, rfl⟩
  rw [hC] at CD cl IY IN
  obtain ⟨L, hL⟩ : ∃ l, prefM n es = l := ⟨_, rfl⟩
  rw [hL] at LB hlen PR CD
  have GB := Lib.hid (fun (j m : Nat) (hj : (allM n (goodB n es))[j]? = some m) => allM_mem.1 (List.mem_of_getElem? hj))
  have GI := Lib.hid (fun (m : Nat) (hm : m < 2 ^ n) => goodB_iff ok hm)
  have glen : (allM n (goodB n es)).length ≤ 1024 := by
    refine Nat.le_trans (List.length_filter_le _ _) ?_
    rw [List.length_range]
    exact two_pow_le n10
  have FIN := Lib.hid (fun best hb => IdlInv.fin (best := best) ok hb)
  have MK := Lib.hid (fun W (hW : Below w.heap.size w W) => masks_good n n10 (.agg #[.int .i64 n, .slice A m c]) A m c (goodB n es) W fun x hx wr hw => isGood_ok n es ok x (pow10 n10 hx) A m c wr (h.below (bel_trans hW hw)))
  obtain ⟨K, hK⟩ : ∃ l, allM n (goodB n es) = l := ⟨_, rfl⟩
  rw [hK] at GB glen FIN MK
  simp only [nI_len] at MK
  have h2p := two_pow_le n10
  have hsl := shl_wrap10 n10
  have hN0 := Nat.two_pow_pos n
  have mn0 : min n 64 = n := by omega
  have j0 : (0 : Int) ≤ (n : Int) := by omega
  have E0 : comM n (L.take 0) = 2 ^ n - 1 := rfl
  have CB := Lib.hid (fun k => comM_lt n (L.take k))
  obtain ⟨N, hN⟩ : ∃ r, 2 ^ n = r := ⟨_, rfl⟩
  rw [hN] at h2p hsl E0 hN0 CB
  have ew := wrap_pred h2p
  have E1 := Lib.hid (show ((comM n (L.take 0) : Nat) : Int) = (N : Int) - 1 by rw [E0]; omega)
  clear h C0 b0 ok hC hL hK hv E0 hN
  go_enter Try.func34, Try.ntmps34
  go_wp2_with fail
  refine V.out.mono ?_
  rintro e w1 ⟨rfl, b1⟩
  have C1 := Lib.hid (HC.out.below b1)
  have z0 := C1.out.cell 0 rfl
  have z1 := C1.out.cell 1 rfl
  have B1 := Lib.hid (bel_trans B0.out b1)
  clear y0 y1 b1 V
  go_wp2_with fail
  refine (PR.out _ B1.out).mono ?_
  rintro e w2 ⟨A2, c2, rfl, i2, b2⟩
  have C2 := Lib.hid (C1.out.below b2)
  have I := Lib.hid i2
  have B2 := Lib.hid (bel_trans B1.out b2)
  clear z0 z1 i2 b2 PR
  go_wp2_with fail
  go_loop [4, 20] (fun o t => ∃ k : Nat, k ≤ L.length ∧ t = .int .i64 k ∧ o = .int .i64 (comM n (L.take k) : Nat)) (fun _ t => L.length - (intOf t).toNat)
  case atStart => exact ⟨0, Nat.zero_le _, rfl, by rw [E1.out]⟩
  case round =>
    obtain ⟨k, hk, rfl, rfl⟩ := hrel
    by_cases hlt : k < L.length
    · obtain ⟨mm, hmm⟩ : ∃ m, L[k]? = some m := ⟨_, List.getElem?_eq_getElem hlt⟩
      obtain ⟨b, off, rfl, hc⟩ := I.out.get (nI_at hmm)
      have hm10 := LB.out k mm hmm
      have cb := CB.out k
      have hd := decide_eq_true (show (k : Int) < (L.length : Int) by omega)
      have k0 : (0 : Int) ≤ (k : Int) := by omega
      have k1 : (k : Int) < (L.length : Int) := by omega
      have CS := Lib.hid (show comM n (L.take (k + 1)) = comM n (L.take k) &&& mm by rw [take_snoc' hmm, comM_snoc])
      obtain ⟨q, hq⟩ : ∃ r, comM n (L.take k) = r := ⟨_, rfl⟩
      rw [hq] at CS cb ⊢
      have han := i64_and q mm (by omega) (by omega)
      clear hmm hq
      go_wp2_with fail
      go_round
      case rel => exact ⟨k + 1, by omega, by go_num, by rw [CS.out]⟩
      case measure => simp [intOf]; omega
    · obtain rfl : k = L.length := by omega
      have hd := decide_eq_false (show ¬ (L.length : Int) < (L.length : Int) by omega)
      rw [CD.out]
      have z0 := C2.out.cell 0 rfl
      have z1 := C2.out.cell 1 rfl
      clear I CD CB E1 ew hsl hN0
      go_wp2_with fail
      refine (MK.out _ B2.out).mono ?_
      rintro e w3 ⟨A3, c3, rfl, o3, b3⟩
      have I := Lib.hid o3.ints
      have B3 := Lib.hid (bel_trans B2.out b3)
      clear z0 z1 o3 b3 MK
      go_wp2_with fail
      go_loop [7, 33] (fun o t => ∃ (k best : Nat), k ≤ K.length ∧ t = .int .i64 k ∧ o = .int .i64 (best : Nat) ∧ best < 1024 ∧ Hid (IdlInv n es (K.take k) best)) (fun _ t => K.length - (intOf t).toNat)
      case atStart => exact ⟨0, 0, Nat.zero_le _, rfl, rfl, by omega, by show IdlInv _ _ _ _; rw [List.take_zero]; exact IdlInv.start n es⟩
      case round =>
        obtain ⟨k, best, hk, rfl, rfl, hb10, INV⟩ := hrel
        by_cases hlt : k < K.length
        · obtain ⟨mm, hmm⟩ : ∃ m, K[k]? = some m := ⟨_, List.getElem?_eq_getElem hlt⟩
          obtain ⟨b, off, rfl, hc⟩ := I.out.get (nI_at hmm)
          obtain ⟨gm1, gm2⟩ := GB.out k mm hmm
          have hm10 := pow10 n10 gm1
          have goo := (GI.out mm gm1).1 gm2
          have hd := decide_eq_true (show (k : Int) < (K.length : Int) by omega)
          have k0 : (0 : Int) ≤ (k : Int) := by omega
          have k1 : (k : Int) < (K.length : Int) := by omega
          have x0 : (0 : Int) ≤ (mm : Int) := by omega
          have x1 : (mm : Int) ≤ 18446744073709551615 := by omega
          have w0 : (0 : Int) ≤ (best : Int) := by omega
          have w1 : (best : Int) ≤ 18446744073709551615 := by omega
          have TK := take_snoc' hmm
          have IY2 := Lib.hid (fun hs hp => IY.out (K.take k) best mm INV.out gm1 goo hs hp)
          have IN2 := Lib.hid (fun hc => IN.out (K.take k) best mm INV.out hc)
          rw [← TK] at IY2 IN2
          have han := i64_andNot mm C (by omega) (by omega)
          have hq := int_eq0 (ldf mm C)
          have hsub := ldf_zero (a := mm) (b := C) (by omega) (by omega)
          obtain ⟨R, hR⟩ : ∃ r, ldf mm C = r := ⟨_, rfl⟩
          rw [hR] at han hq hsub
          by_cases hz : R = 0
          · have hs := hsub.1 hz
            rw [decide_eq_true hz] at hq
            subst hz
            by_cases hp : pcn best 10 < pcn mm 10
            · have hdp := decide_eq_true (show ((pcn best 10 : Nat) : Int) < ((pcn mm 10 : Nat) : Int) by omega)
              have NX := Lib.hid (IY2.out hs hp)
              clear IY2 IN2 hs hsub hR TK hmm gm1 gm2 goo INV
              go_wp2_with fail
              refine (ones_ok mm hm10 _).mono ?_
              rintro e w4 ⟨rfl, rfl⟩
              go_wp2_with fail
              refine (ones_ok best hb10 _).mono ?_
              rintro e w4 ⟨rfl, rfl⟩
              go_wp2_with fail
              go_round
              case rel => exact ⟨k + 1, mm, by omega, by go_num, rfl, hm10, NX.out⟩
              case measure => simp [intOf]; omega
            · have hdp := decide_eq_false (show ¬ ((pcn best 10 : Nat) : Int) < ((pcn mm 10 : Nat) : Int) by omega)
              have NX := Lib.hid (IN2.out fun _ => hp)
              clear IY2 IN2 hs hsub hR TK hmm gm1 gm2 goo INV
              go_wp2_with fail
              refine (ones_ok mm hm10 _).mono ?_
              rintro e w4 ⟨rfl, rfl⟩
              go_wp2_with fail
              refine (ones_ok best hb10 _).mono ?_
              rintro e w4 ⟨rfl, rfl⟩
              go_wp2_with fail
              go_round
              case rel => exact ⟨k + 1, best, by omega, by go_num, rfl, hb10, NX.out⟩
              case measure => simp [intOf]; omega
          · have NX := Lib.hid (IN2.out fun hs => absurd (hsub.2 hs) hz)
            rw [decide_eq_false hz] at hq
            clear IY2 IN2 hz hsub hR TK hmm gm1 gm2 goo INV
            go_wp2_with fail
            go_round
            case rel => exact ⟨k + 1, best, by omega, by go_num, rfl, hb10, NX.out⟩
            case measure => simp [intOf]; omega
        · obtain rfl : k = K.length := by omega
          have hd := decide_eq_false (show ¬ (K.length : Int) < (K.length : Int) by omega)
          have E := Lib.hid (FIN.out best (by have := INV.out; rwa [List.take_length] at this))
          go_wp2_with fail
          refine (setOf_any best hb10 _).mono ?_
          rintro e w5 ⟨A5, c5, rfl, o5, b5⟩
          rw [E.out] at o5 ⊢
          have O := Lib.hid (o5.mono (b2 := w.heap.size) B3.out.size)
          have B5 := Lib.hid (bel_trans B3.out b5)
          clear o5 b5
          go_wp2_with fail
          exact bodyPost_ret (v := .tuple #[.slice A5 (bitsTo (idlM n es) 10).length c5, .bool true]) (by simp [results, Try.results34, go_sem]) rfl ⟨A5, c5, rfl, O.out, B5.out⟩
set_option maxHeartbeats 2000000 in
theorem idealS_ok (n : Nat) (es : List (Nat × Nat)) (ok : FrOk n es) (hv : frB n (es.map erow) = true) (A : Option Addr) (m c : Nat) (w : World) (h : Rws w A m c (es.map erow)) :
    Calls Try.prog 33 #[.agg #[.int .i64 n, .slice A m c]] w (GivesS (bitsTo (idlM n es) 10) true w) := by
  have b0 := bel_alloc w (.cells #[.int .i64 n, .slice A m c] 26)
  have C0 := Cs.new w [.int .i64 n, .slice A m c] 26
  have n10 := ok.n10
  have V := Lib.hid (l08Is_any n (es.map erow) _ A m c _ C0 (h.below b0))
  rw [hv] at V
  have OK := Lib.hid ok
  have H := Lib.hid h
  have HC := Lib.hid C0
  have B0 := Lib.hid b0
  have LB := Lib.hid (fun (j m : Nat) (hj : (prefM n es)[j]? = some m) => prefM_lt ok hj)
  have hlen := prefM_len ok
  have CD := Lib.hid (show comM n ((prefM n es).take (prefM n es).length) = comM n (prefM n es) by rw [List.take_length])
  have PR := Lib.hid (fun W g (hW : Gr W g n es) => specPref_ok n es ok g W hW)
  simp only [nI_len] at PR
  have IL := Lib.hid (fun k => pow10 n10 (itM_lt (es := es) (comM_lt n (prefM n es)) k))
  have IE := Lib.hid (show itM n es (comM n (prefM n es)) n = idlM n es from rfl)
  obtain ⟨C, hC⟩ : ∃ r, comM n (prefM n es) = r := ⟨_, rfl⟩
  rw [hC] at CD IL IE
  obtain ⟨L, hL⟩ : ∃ l, prefM n es = l := ⟨_, rfl⟩
  rw [hL] at LB hlen PR CD
  have h2p := two_pow_le n10
  have hN0 := Nat.two_pow_pos n
  have j0 : (0 : Int) ≤ (n : Int) := by omega
  have E0 : comM n (L.take 0) = 2 ^ n - 1 := rfl
  have CB := Lib.hid (fun k => comM_lt n (L.take k))
  have AL := Lib.hid (fun W g (hW : Gr W g n es) => all_ok n es n10 g W hW)
  obtain ⟨N, hN⟩ : ∃ r, 2 ^ n = r := ⟨_, rfl⟩
  rw [hN] at h2p E0 hN0 CB AL
  have E1 := Lib.hid (show ((comM n (L.take 0) : Nat) : Int) = (N : Int) - 1 by rw [E0]; omega)
  clear h C0 b0 ok hC hL hv E0 hN
  go_enter Try.func33, Try.ntmps33
  go_wp2_with fail
  refine V.out.mono ?_
  rintro e w1 ⟨rfl, b1⟩
  have C1 := Lib.hid (HC.out.below b1)
  have B1 := Lib.hid (bel_trans B0.out b1)
  clear b1 V
  go_wp2_with fail
  refine (l08Of_ok n es OK.out _ A m c _ C1.out (H.out.below B1.out)).mono ?_
  rintro e w2 ⟨g, rfl, hg, b2⟩
  have G2 := Lib.hid hg
  have B2 := Lib.hid (bel_trans B1.out b2)
  clear hg b2
  go_wp2_with fail
  refine (AL.out _ _ G2.out).mono ?_
  rintro e w3 ⟨rfl, rfl⟩
  go_wp2_with fail
  refine (PR.out _ _ G2.out).mono ?_
  rintro e w3 ⟨A3, c3, rfl, i3, b3⟩
  have I := Lib.hid i3.ints
  have G3 := Lib.hid (G2.out.below b3)
  have B3 := Lib.hid (bel_trans B2.out b3)
  clear i3 b3
  go_wp2_with fail
  go_loop [5, 7] (fun o t => ∃ k : Nat, k ≤ L.length ∧ t = .int .i64 k ∧ o = .int .i64 (comM n (L.take k) : Nat)) (fun _ t => L.length - (intOf t).toNat)
  case atStart => exact ⟨0, Nat.zero_le _, rfl, by rw [E1.out]⟩
  case round =>
    obtain ⟨k, hk, rfl, rfl⟩ := hrel
    by_cases hlt : k < L.length
    · obtain ⟨mm, hmm⟩ : ∃ m, L[k]? = some m := ⟨_, List.getElem?_eq_getElem hlt⟩
      obtain ⟨b, off, rfl, hc⟩ := I.out.get (nI_at hmm)
      have hm10 := LB.out k mm hmm
      have cb := CB.out k
      have hd := decide_eq_true (show (k : Int) < (L.length : Int) by omega)
      have k0 : (0 : Int) ≤ (k : Int) := by omega
      have k1 : (k : Int) < (L.length : Int) := by omega
      have CS := Lib.hid (show comM n (L.take (k + 1)) = comM n (L.take k) &&& mm by rw [take_snoc' hmm, comM_snoc])
      obtain ⟨q, hq⟩ : ∃ r, comM n (L.take k) = r := ⟨_, rfl⟩
      rw [hq] at CS cb ⊢
      have han := i64_and q mm (by omega) (by omega)
      clear hmm hq
      go_wp2_with fail
      go_round
      case rel => exact ⟨k + 1, by omega, by go_num, by rw [CS.out]⟩
      case measure => simp [intOf]; omega
    · obtain rfl : k = L.length := by omega
      have hd := decide_eq_false (show ¬ (L.length : Int) < (L.length : Int) by omega)
      rw [CD.out]
      clear I CD CB E1 hN0
      have y0 := (by obtain ⟨_, _, _, _, C, _, _⟩ := G3.out; exact C.cell 0 rfl : w3.cell? ⟨g, 0, none⟩ = some (.int .i64 n))
      go_wp2_with fail
      go_loop [5, 8] (fun o t => ∃ k : Nat, k ≤ n ∧ t = .int .i64 k ∧ o = .int .i64 (itM n es C k : Nat)) (fun _ t => n - (intOf t).toNat)
      case atStart => exact ⟨0, Nat.zero_le _, rfl, rfl⟩
      case round =>
        obtain ⟨k, hk, rfl, rfl⟩ := hrel
        by_cases hlt : k < n
        · have il := IL.out k
          have hd := decide_eq_true (show (k : Int) < (n : Int) by omega)
          have SS := Lib.hid (show itM n es C (k + 1) = itM n es C k &&& dfdM n es (itM n es C k) from rfl)
          obtain ⟨q, hq⟩ : ∃ r, itM n es C k = r := ⟨_, rfl⟩
          rw [hq] at SS il ⊢
          have dl := pow10 n10 (dfdM_lt n es q)
          have DF := Lib.hid (defends_ok n es OK.out q il g _ G3.out)
          obtain ⟨d, hdd⟩ : ∃ r, dfdM n es q = r := ⟨_, rfl⟩
          rw [hdd] at SS dl DF
          have han := i64_and q d (by omega) (by omega)
          clear hq hdd
          go_wp2_with fail
          refine DF.out.mono ?_
          rintro e w4 ⟨rfl, rfl⟩
          go_wp2_with fail
          go_round
          case rel => exact ⟨k + 1, by omega, by go_num, by rw [SS.out]⟩
          case measure => simp [intOf]; omega
        · obtain rfl : k = n := by omega
          have hd := decide_eq_false (show ¬ (k : Int) < (k : Int) by omega)
          have il := IL.out k
          rw [IE.out] at il ⊢
          go_wp2_with fail
          refine (l08List_ok _ il _).mono ?_
          rintro e w5 ⟨A5, c5, rfl, o5, b5⟩
          have O := Lib.hid (o5.mono (b2 := w.heap.size) B3.out.size)
          have B5 := Lib.hid (bel_trans B3.out b5)
          clear o5 b5
          go_wp2_with fail
          exact bodyPost_ret (v := .tuple #[.slice A5 (bitsTo (idlM k es) 10).length c5, .bool true]) (by simp [results, Try.results33, go_sem]) rfl ⟨A5, c5, rfl, O.out, B5.out⟩
theorem ideal_both (cnt : Int) (rows : List (List Int)) : ∃ (zs : List Int) (b : Bool), zs.length ≤ 1048576 ∧
    (∀ (A : Option Addr) (m c : Nat) (w : World), Rws w A m c rows → Calls Try.prog 34 #[.agg #[.int .i64 cnt, .slice A m c]] w (GivesS zs b w)) ∧
    (∀ (A : Option Addr) (m c : Nat) (w : World), Rws w A m c rows → Calls Try.prog 33 #[.agg #[.int .i64 cnt, .slice A m c]] w (GivesS zs b w)) := by
  cases hv : frB cnt rows
  · refine ⟨[], false, by simp, fun A m c w h => (idealI_no cnt rows hv A m c w h).mono ?_, fun A m c w h => (idealS_no cnt rows hv A m c w h).mono ?_⟩ <;>
    · rintro e w' ⟨rfl, b⟩
      exact ⟨none, 0, rfl, ownI_nil _ _, b⟩
  · obtain ⟨n, es, rfl, rfl, ok⟩ := frB_yes hv
    have hl := bitsTo_len (idlM n es) 10
    exact ⟨_, true, by omega, fun A m c w h => idealI_ok n es ok hv A m c w h, fun A m c w h => idealS_ok n es ok hv A m c w h⟩
end Go.Proofs.Yteejfjgofpolkaa
