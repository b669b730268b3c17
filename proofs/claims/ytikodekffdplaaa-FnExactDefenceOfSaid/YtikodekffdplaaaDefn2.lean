/- The smallest admissible set with an argument, on both sides. -/
import Derived.Test.YtikodekffdplaaaDefn
namespace Go.Proofs.Ytikodekffdplaaa
set_option linter.unusedVariables false
set_option linter.unusedSimpArgs false
set_option maxRecDepth 100000
open Go.RowKit Go.Deep
def GivesD (zs : List Int) (b : Bool) (w : World) (e : Ending) (w' : World) : Prop := ∃ A c, e = .returned (.tuple #[.slice A zs.length c, .bool b]) ∧ OwnI w' w.heap.size A zs.length c zs ∧ Below w.heap.size w w'
theorem defI_no (cnt : Int) (hc1 : -9223372036854775808 ≤ cnt) (hc2 : cnt ≤ 9223372036854775807) (x : Int) (rows : List (List Int)) (hv : (frB cnt rows && inR x 0 (cnt - 1)) = false) (A : Option Addr) (m c : Nat) (w : World) (h : Rws w A m c rows) :
    Calls Try.prog 21 #[.agg #[.int .i64 cnt, .slice A m c], .int .i64 x] w fun e w' => e = .returned (.tuple #[.slice none 0 0, .bool false]) ∧ Below w.heap.size w w' := by
  have a0 := bel_alloc w (.cells #[.int .i64 cnt, .slice A m c] 28)
  have C00 := Cs.new w [.int .i64 cnt, .slice A m c] 28
  have a1 := bel_alloc (w.alloc (.cells #[.int .i64 cnt, .slice A m c] 28)) (.cells #[.int .i64 x] 2)
  have D00 := Cs.new (w.alloc (.cells #[.int .i64 cnt, .slice A m c] 28)) [.int .i64 x] 2
  rw [show (w.alloc (.cells #[.int .i64 cnt, .slice A m c] 28)).heap.size = w.heap.size + 1 by simp] at D00
  have b0 := bel_trans a0 a1
  have C0 := C00.below a1
  have y0 := C0.cell 0 rfl
  have y1 := C0.cell 1 rfl
  have x0 := D00.cell 0 rfl
  have V := Lib.hid (isArgument_any cnt hc1 hc2 x rows A m c _ (h.below b0))
  rw [hv] at V
  have B0 := Lib.hid b0
  clear h C0 b0 hv a0 a1 C00 D00
  go_enter Try.func21, Try.ntmps21
  go_wp2_with fail
  refine V.out.mono ?_
  rintro e w1 ⟨rfl, b1⟩
  have B1 := Lib.hid (bel_trans B0.out b1)
  clear b1
  go_wp2_with fail
  exact bodyPost_ret (v := .tuple #[.slice none 0 0, .bool false]) (by simp [results, Try.results21, go_sem]) rfl ⟨rfl, B1.out⟩
theorem defS_no (cnt : Int) (x : Int) (rows : List (List Int)) (hv : (frB cnt rows && inR x 0 (cnt - 1)) = false) (A : Option Addr) (m c : Nat) (w : World) (h : Rws w A m c rows) :
    Calls Try.prog 20 #[.agg #[.int .i64 cnt, .slice A m c], .int .i64 x] w fun e w' => e = .returned (.tuple #[.slice none 0 0, .bool false]) ∧ Below w.heap.size w w' := by
  have b0 := bel_alloc w (.cells #[.int .i64 cnt, .slice A m c] 28)
  have C0 := Cs.new w [.int .i64 cnt, .slice A m c] 28
  have V := Lib.hid (l08Has_any cnt x rows _ A m c _ C0 (h.below b0))
  rw [hv] at V
  have B0 := Lib.hid b0
  clear h C0 b0 hv
  go_enter Try.func20, Try.ntmps20
  go_wp2_with fail
  refine V.out.mono ?_
  rintro e w1 ⟨rfl, b1⟩
  have B1 := Lib.hid (bel_trans B0.out b1)
  clear b1
  go_wp2_with fail
  exact bodyPost_ret (v := .tuple #[.slice none 0 0, .bool false]) (by simp [results, Try.results20, go_sem]) rfl ⟨rfl, B1.out⟩
set_option maxHeartbeats 2000000 in
theorem defI_ok (n : Nat) (es : List (Nat × Nat)) (ok : FrOk n es) (a : Nat) (ha : a < n) (hv : (frB n (es.map erow) && inR a 0 ((n : Int) - 1)) = true) (A : Option Addr) (m c : Nat) (w : World) (h : Rws w A m c (es.map erow)) :
    Calls Try.prog 21 #[.agg #[.int .i64 n, .slice A m c], .int .i64 a] w (GivesD (bestF (defB n es a) (2 ^ n)) (decide (0 < (bestF (defB n es a) (2 ^ n)).length)) w) := by
  have a0 := bel_alloc w (.cells #[.int .i64 n, .slice A m c] 28)
  have C00 := Cs.new w [.int .i64 n, .slice A m c] 28
  have a1 := bel_alloc (w.alloc (.cells #[.int .i64 n, .slice A m c] 28)) (.cells #[.int .i64 a] 2)
  have D00 := Cs.new (w.alloc (.cells #[.int .i64 n, .slice A m c] 28)) [.int .i64 a] 2
  rw [show (w.alloc (.cells #[.int .i64 n, .slice A m c] 28)).heap.size = w.heap.size + 1 by simp] at D00
  have b0 := bel_trans a0 a1
  have C0 := C00.below a1
  have y0 := C0.cell 0 rfl
  have y1 := C0.cell 1 rfl
  have x0 := D00.cell 0 rfl
  have n10 := ok.n10
  have V := Lib.hid (isArgument_any n (by omega) (by omega) a (es.map erow) A m c _ (h.below b0))
  rw [hv] at V
  have HC := Lib.hid C0
  have HD := Lib.hid D00
  have B0 := Lib.hid b0
  have MK := Lib.hid (fun W (hW : Below w.heap.size w W) (hC : Cs W w.heap.size [.int .i64 n, .slice A m c]) (hD : Cs W (w.heap.size + 1) [.int .i64 a]) => masks_defn n n10 (.pointer (some ⟨w.heap.size + 1, 0, none⟩)) (.pointer (some ⟨w.heap.size, 0, none⟩)) A m c (defB n es a) W fun x hx wr hw => defCl_ok n es ok a ha x (pow10 n10 hx) w.heap.size (w.heap.size + 1) A m c wr (hD.below hw) (hC.below hw) (h.below (bel_trans hW hw)))
  simp only [nI_len] at MK
  have LB := Lib.hid (fun (x : Nat) (hx : x ∈ allM n (defB n es a)) => allM_lt n10 hx)
  have hlen : (allM n (defB n es a)).length ≤ 1024 := allM_len n10 _
  have BF := Lib.hid (fun zs (hz : BL (srtL (bitsL (allM n (defB n es a)))) zs) => (show bestF (defB n es a) (2 ^ n) = zs from (bestF_ok (defB_ne (n := n) (es := es) (a := a) (by omega)) (2 ^ n)).unique hz.bestK))
  have NZ := Lib.hid (fun zs (hz : zs ∈ srtL (bitsL (allM n (defB n es a)))) => (show zs ≠ [] from by
    have := (srtL_perm _).subset hz
    obtain ⟨q, hq, rfl⟩ := List.mem_map.1 this
    exact defB_ne (by omega) q (allM_mem.1 hq).2))
  obtain ⟨L, hL⟩ : ∃ l, allM n (defB n es a) = l := ⟨_, rfl⟩
  obtain ⟨Z, hZ⟩ : ∃ z, bestF (defB n es a) (2 ^ n) = z := ⟨_, rfl⟩
  rw [hL] at MK LB hlen BF NZ
  rw [hZ] at BF ⊢
  have NE : ∀ (a : Option Addr) (n c n' c' : Nat) (W : World), (binOp .eql 35 (.slice a n c) (.slice none n' c')).run Try.prog W = .ok (.bool a.isNone) W := fun a n c n' c' W => Lib.run_eql_slice_nil W 35 2 a n c n' c' Try.underlying35
  clear h C0 b0 hv hL hZ a0 a1 C00 D00 ok
  go_enter Try.func21, Try.ntmps21
  go_wp2_with fail
  refine V.out.mono ?_
  rintro e w1 ⟨rfl, b1⟩
  have C1 := Lib.hid (HC.out.below b1)
  have D1 := Lib.hid (HD.out.below b1)
  have z0 := C1.out.cell 0 rfl
  have z1 := C1.out.cell 1 rfl
  have B1 := Lib.hid (bel_trans B0.out b1)
  clear y0 y1 x0 b1 V
  go_wp2_with fail
  refine (MK.out _ B1.out C1.out D1.out).mono ?_
  rintro e w2 ⟨A2, c2, rfl, o2, b2⟩
  have I := Lib.hid o2.ints
  have B2 := Lib.hid (bel_trans B1.out b2)
  clear z0 z1 o2 b2 MK
  go_wp2_with fail
  refine (sorted_ok A2 c2 L LB.out hlen _ I.out).mono ?_
  rintro e w3 ⟨A3, c3, vs, rfl, o3, b3⟩
  have O := Lib.hid (o3.mono (b2 := w.heap.size) B2.out.size)
  have B3 := Lib.hid (bel_trans B2.out b3)
  have AS := Lib.hid (srtL_asc (bitsL L))
  have SL : (srtL (bitsL L)).length ≤ 1024 := by rw [srtL_len, bitsL_len]; exact hlen
  obtain ⟨S, hS⟩ : ∃ s, srtL (bitsL L) = s := ⟨_, rfl⟩
  rw [hS] at O AS BF NZ SL ⊢
  clear o3 b3 hS I
  go_wp2_with fail
  go_loop [6, 18] (fun o t => ∃ (j : Nat) (zs : List Int) (A : Option Addr) (c : Nat), j ≤ S.length ∧ t = .int .i64 j ∧ o = .slice A zs.length c ∧ Hid (OwnI w3 w.heap.size A zs.length c zs) ∧ Hid (BL (S.take j) zs) ∧ ((j = 0 ∧ A = none ∧ zs = [] ∧ c = 0) ∨ (0 < j ∧ ∃ g, A = some ⟨g, 0, none⟩))) (fun _ t => S.length - (intOf t).toNat)
  case atStart => exact ⟨0, [], none, 0, Nat.zero_le _, rfl, rfl, ownI_nil _ _, .inl ⟨rfl, rfl⟩, .inl ⟨rfl, rfl, rfl, rfl⟩⟩
  case round =>
    obtain ⟨j, zs, Ab, cb, hj, rfl, rfl, OB, HB, hst⟩ := hrel
    by_cases hlt : j < S.length
    · obtain ⟨g, A', c', s, rfl, _, _, hs, cc, os, _⟩ := O.out.at hlt
      have d0 := decide_eq_true (show (j : Int) < (S.length : Int) by omega)
      have j0 : (0 : Int) ≤ (j : Int) := by omega
      have j1 : (j : Int) < (S.length : Int) := by omega
      have hs0 : s ≠ [] := NZ.out s (List.mem_of_getElem? hs.out)
      have hsl : 0 < s.length := List.length_pos_iff.2 hs0
      obtain ⟨g2, rfl, _, _⟩ := os.form hsl
      have OS := Lib.hid os
      have TK := Lib.hid (show S.take (j + 1) = S.take j ++ [s] from take_snoc' hs.out)
      have AT := Lib.hid (asc_take AS.out hs.out)
      clear os hs
      rcases hst with ⟨rfl, rfl, rfl, rfl⟩ | ⟨hj0, g3, rfl⟩
      · have K2 := Lib.hid (show BL (S.take (0 + 1)) s by rw [TK.out]; exact BL.first (by simp))
        clear HB
        go_wp2_with fail
        go_round
        case rel => exact ⟨1, s, some ⟨g2, 0, none⟩, c', by omega, by go_num, rfl, OS, K2, .inr ⟨by omega, g2, rfl⟩⟩
        case measure => simp [intOf]; omega
      · by_cases hc : s.length < zs.length
        · have d1 := decide_eq_true (show (s.length : Int) < (zs.length : Int) by omega)
          have K2 := Lib.hid (show BL (S.take (j + 1)) s by rw [TK.out]; exact HB.out.less hc)
          clear HB
          go_wp2_with fail
          go_round
          case rel => exact ⟨j + 1, s, some ⟨g2, 0, none⟩, c', by omega, by go_num, rfl, OS, K2, .inr ⟨by omega, g2, rfl⟩⟩
          case measure => simp [intOf]; omega
        · have d1 := decide_eq_false (show ¬ (s.length : Int) < (zs.length : Int) by omega)
          have K2 := Lib.hid (show BL (S.take (j + 1)) zs by rw [TK.out]; exact HB.out.keep (by intro e; have := congrArg List.length e; rw [List.length_take, List.length_nil] at this; omega) hc AT.out)
          clear HB
          go_wp2_with fail
          go_round
          case rel => exact ⟨j + 1, zs, some ⟨g3, 0, none⟩, cb, by omega, by go_num, rfl, OB, K2, .inr ⟨by omega, g3, rfl⟩⟩
          case measure => simp [intOf]; omega
    · obtain rfl : j = S.length := by omega
      have d0 := decide_eq_false (show ¬ (S.length : Int) < (S.length : Int) by omega)
      have EZ : Z = zs := BF.out zs (by have := HB.out; rwa [List.take_length] at this)
      subst EZ
      rcases hst with ⟨h0, rfl, rfl, rfl⟩ | ⟨hj0, g3, rfl⟩
      · clear BF
        go_wp2_with fail
        exact bodyPost_ret (v := .tuple #[.slice none 0 0, .bool false]) (by simp [results, Try.results21, go_sem]) rfl ⟨none, 0, rfl, OB.out, B3.out⟩
      · have hz : 0 < Z.length := by
          have := HB.out
          rw [List.take_length] at this
          rcases this with ⟨e, _⟩ | ⟨h1, _⟩
          · rw [e] at hj0; simp at hj0
          · exact List.length_pos_iff.2 (NZ.out Z h1)
        rw [decide_eq_true hz]
        clear BF
        go_wp2_with fail
        exact bodyPost_ret (v := .tuple #[.slice (some ⟨g3, 0, none⟩) Z.length cb, .bool true]) (by simp [results, Try.results21, go_sem]) rfl ⟨some ⟨g3, 0, none⟩, cb, rfl, OB.out, B3.out⟩
theorem defB_v {n : Nat} {es : List (Nat × Nat)} {a k : Nat} (h : k.testBit a = false) : defB n es a k = false := by unfold defB; rw [h]; rfl
theorem defB_v2 {n : Nat} {es : List (Nat × Nat)} {a k : Nat} {v : Bool} (h : k.testBit a = true) (hg : goodB n es k = v) : defB n es a k = v := by unfold defB; rw [h, hg]; rfl
set_option maxHeartbeats 4000000 in
theorem defS_ok (n : Nat) (es : List (Nat × Nat)) (ok : FrOk n es) (a : Nat) (ha : a < n) (hv : (frB n (es.map erow) && inR a 0 ((n : Int) - 1)) = true) (A : Option Addr) (m c : Nat) (w : World) (h : Rws w A m c (es.map erow)) :
    Calls Try.prog 20 #[.agg #[.int .i64 n, .slice A m c], .int .i64 a] w (GivesD (bestF (defB n es a) (2 ^ n)) (decide (0 < (bestF (defB n es a) (2 ^ n)).length)) w) := by
  have b0 := bel_alloc w (.cells #[.int .i64 n, .slice A m c] 28)
  have C0 := Cs.new w [.int .i64 n, .slice A m c] 28
  have V := Lib.hid (l08Has_any n a (es.map erow) _ A m c _ C0 (h.below b0))
  rw [hv] at V
  have OK := Lib.hid ok
  have n10 := ok.n10
  have H := Lib.hid h
  have HC := Lib.hid C0
  have B0 := Lib.hid b0
  have h2p := two_pow_le n10
  have hN0 := Nat.two_pow_pos n
  have GB := Lib.hid (fun k => (show defB n es a k = (k.testBit a && goodB n es k) from rfl))
  have FN := Lib.hid (fun k => @bestF_no (defB n es a) k)
  have FW := Lib.hid (fun k => @bestF_new (defB n es a) k)
  have FO := Lib.hid (fun k => @bestF_old (defB n es a) k)
  have hF0 : bestF (defB n es a) 0 = [] := rfl
  obtain ⟨N, hN⟩ : ∃ r, 2 ^ n = r := ⟨_, rfl⟩
  have HN := Lib.hid hN
  have FL := Lib.hid (fun k => (show (bestF (defB n es a) k).length ≤ 10 from by
    rcases bestF_ok (defB_ne (n := n) (es := es) (a := a) (by omega)) k with ⟨e, _⟩ | ⟨q, _, _, e, _⟩
    · rw [e]; simp
    · rw [e]; exact bitsTo_le q))
  obtain ⟨p, hp⟩ : ∃ p, defB n es a = p := ⟨_, rfl⟩
  rw [hp] at FN FW FO hF0 GB FL ⊢
  rw [hN] at h2p hN0 ⊢
  clear h C0 b0 hv hN ok hp
  go_enter Try.func20, Try.ntmps20
  go_wp2_with fail
  refine V.out.mono ?_
  rintro e w1 ⟨rfl, b1⟩
  have C1 := Lib.hid (HC.out.below b1)
  have B1 := Lib.hid (bel_trans B0.out b1)
  clear b1 V
  go_wp2_with fail
  refine (l08Of_ok n es OK.out _ A m c _ C1.out (H.out.below B1.out)).mono ?_
  rintro e w2 ⟨g, rfl, hg, b2⟩
  have G2 := Lib.hid hg
  have B2 := Lib.hid (bel_trans B1.out b2)
  have O0 := Lib.hid (ownI_lit w2)
  have A2 := Lib.hid (bel_alloc w2 (.cells #[] 2))
  clear hg b2
  go_wp2_with fail
  go_loopw [7, 8] (fun o t wr => ∃ (k : Nat) (A : Option Addr) (c : Nat), k ≤ N ∧ t = .int .i64 k ∧ o = .slice A (bestF p k).length c ∧ OwnI wr w2.heap.size A (bestF p k).length c (bestF p k) ∧ Below w2.heap.size w2 wr) (fun _ t _ => N - (intOf t).toNat)
  case atStart => exact ⟨0, _, _, Nat.zero_le _, rfl, by rw [hF0]; rfl, by rw [hF0]; exact O0.out, A2.out⟩
  case round =>
    obtain ⟨k, A, c, hk, rfl, rfl, hO, hB⟩ := hrel
    have HO := Lib.hid hO
    have HB := Lib.hid hB
    have HG := Lib.hid (G2.out.below hB)
    clear hO hB O0 A2 hF0
    have AL := Lib.hid (all_ok n es n10 g wr HG.out)
    rw [HN.out] at AL
    by_cases hlt : k < N
    · have hd : decide ((k : Int) ≤ (N : Int) - 1) = true := decide_eq_true (by omega)
      have fl := FL.out k
      have gb := GB.out k
      have AD := Lib.hid (adm_ok n es OK.out k (by omega) g wr HG.out)
      cases hb : k.testBit a
      · have IN := Lib.hid (l08In_v hb (by omega) (by omega) wr)
        rw [hb] at gb
        have E := Lib.hid (FN.out k gb)
        clear gb hb AD
        go_wp2_with fail
        refine AL.out.mono ?_
        rintro e w1 ⟨rfl, rfl⟩
        go_wp2_with fail
        refine IN.out.mono ?_
        rintro e w1 ⟨rfl, rfl⟩
        go_wp2_with fail
        go_roundw
        case rel => exact ⟨k + 1, A, c, by omega, by go_num, by rw [E.out], by rw [E.out]; exact HO.out, HB.out⟩
        case measure => simp [intOf]; omega
      · have IN := Lib.hid (l08In_v hb (by omega) (by omega) wr)
        rw [hb] at gb
        clear hb
        obtain ⟨v, hv⟩ : ∃ v, goodB n es k = v := ⟨_, rfl⟩
        rw [hv] at AD gb
        clear hv
        cases v
        · have E := Lib.hid (FN.out k gb)
          clear gb
          go_wp2_with fail
          refine AL.out.mono ?_
          rintro e w1 ⟨rfl, rfl⟩
          go_wp2_with fail
          refine IN.out.mono ?_
          rintro e w1 ⟨rfl, rfl⟩
          go_wp2_with fail
          refine AD.out.mono ?_
          rintro e w1 ⟨rfl, rfl⟩
          go_wp2_with fail
          go_roundw
          case rel => exact ⟨k + 1, A, c, by omega, by go_num, by rw [E.out], by rw [E.out]; exact HO.out, HB.out⟩
          case measure => simp [intOf]; omega
        · have E1 := Lib.hid (FW.out k gb)
          have E2 := Lib.hid (FO.out k gb)
          have LI := Lib.hid (l08List_ok k (by omega) wr)
          have zl := bitsTo_le k
          obtain ⟨z, hz⟩ : ∃ z, bitsTo k 10 = z := ⟨_, rfl⟩
          obtain ⟨b, hbb⟩ : ∃ b, bestF p k = b := ⟨_, rfl⟩
          rw [hz] at E1 E2 LI zl
          rw [hbb] at E1 E2 HO fl ⊢
          clear gb hz hbb
          go_wp2_with fail
          refine AL.out.mono ?_
          rintro e w1 ⟨rfl, rfl⟩
          go_wp2_with fail
          refine IN.out.mono ?_
          rintro e w1 ⟨rfl, rfl⟩
          go_wp2_with fail
          refine AD.out.mono ?_
          rintro e w1 ⟨rfl, rfl⟩
          go_wp2_with fail
          refine LI.out.mono ?_
          rintro e w4 ⟨A4, c4, rfl, o4, u4⟩
          have O4 := Lib.hid (o4.mono (b2 := w2.heap.size) HB.out.size)
          have OB := Lib.hid (HO.out.below u4)
          have B4 := Lib.hid (bel_trans HB.out u4)
          clear o4 u4 AL AD IN LI HG
          by_cases hb0 : b.length = 0
          · have E := Lib.hid (E1.out (.inl (List.eq_nil_of_length_eq_zero hb0)))
            clear E1 E2
            have d1 : (((b.length : Nat) : Int) == 0) = true := by rw [hb0]; rfl
            go_wp2_with fail
            go_roundw
            case rel => exact ⟨k + 1, A4, c4, by omega, by go_num, by rw [E.out], by rw [E.out]; exact O4.out, B4.out⟩
            case measure => simp [intOf]; omega
          · have d1 : (((b.length : Nat) : Int) == 0) = false := by rw [show (0 : Int) = ((0 : Nat) : Int) from rfl, int_eqn]; simp; intro e; rw [e] at hb0; simp at hb0
            have bne : ¬ b = [] := fun e => hb0 (by rw [e]; rfl)
            by_cases hc : z.length < b.length
            · have d2 := decide_eq_true (show (z.length : Int) < (b.length : Int) by omega)
              have E := Lib.hid (E1.out (.inr (.inl hc)))
              clear E1 E2 bne
              go_wp2_with fail
              go_roundw
              case rel => exact ⟨k + 1, A4, c4, by omega, by go_num, by rw [E.out], by rw [E.out]; exact O4.out, B4.out⟩
              case measure => simp [intOf]; omega
            · have d2 := decide_eq_false (show ¬ (z.length : Int) < (b.length : Int) by omega)
              have d3 := int_eqn z.length b.length
              by_cases he : z.length = b.length
              · rw [decide_eq_true he] at d3
                have LS := Lib.hid (l08Less_any A4 z.length c4 z A b.length c b _ O4.out.ints OB.out.ints)
                by_cases hl : cmpL z b < 0
                · rw [decide_eq_true hl] at LS
                  have E := Lib.hid (E1.out (.inr (.inr ⟨he, hl⟩)))
                  clear E1 E2 he hl bne
                  go_wp2_with fail
                  refine LS.out.mono ?_
                  rintro e w5 ⟨rfl, u5⟩
                  have O5 := Lib.hid (O4.out.below u5)
                  have B5 := Lib.hid (bel_trans B4.out u5)
                  clear u5 LS
                  go_wp2_with fail
                  go_roundw
                  case rel => exact ⟨k + 1, A4, c4, by omega, by go_num, by rw [E.out], by rw [E.out]; exact O5.out, B5.out⟩
                  case measure => simp [intOf]; omega
                · rw [decide_eq_false hl] at LS
                  have E := Lib.hid (E2.out (by rintro (x | x | ⟨_, x⟩); exact bne x; exact hc x; exact hl x))
                  clear E1 E2 he hl bne
                  go_wp2_with fail
                  refine LS.out.mono ?_
                  rintro e w5 ⟨rfl, u5⟩
                  have O5 := Lib.hid (OB.out.below u5)
                  have B5 := Lib.hid (bel_trans B4.out u5)
                  clear u5 LS
                  go_wp2_with fail
                  go_roundw
                  case rel => exact ⟨k + 1, A, c, by omega, by go_num, by rw [E.out], by rw [E.out]; exact O5.out, B5.out⟩
                  case measure => simp [intOf]; omega
              · rw [decide_eq_false he] at d3
                have E := Lib.hid (E2.out (by rintro (x | x | ⟨x, _⟩); exact bne x; exact hc x; exact he x))
                clear E1 E2 he bne
                go_wp2_with fail
                go_roundw
                case rel => exact ⟨k + 1, A, c, by omega, by go_num, by rw [E.out], by rw [E.out]; exact OB.out, B4.out⟩
                case measure => simp [intOf]; omega
    · obtain rfl : k = N := by omega
      have hd : decide ((k : Int) ≤ (k : Int) - 1) = false := decide_eq_false (by omega)
      obtain ⟨Z, hZ⟩ : ∃ z, bestF p k = z := ⟨_, rfl⟩
      rw [hZ] at HO ⊢
      have HZ := Lib.hid hZ
      have d2 : decide ((0 : Int) < (Z.length : Int)) = decide (0 < Z.length) := decide_eq_decide.2 (by omega)
      clear hZ
      go_wp2_with fail
      refine AL.out.mono ?_
      rintro e w1 ⟨rfl, rfl⟩
      go_wp2_with fail
      have B5 := bel_trans B2.out HB.out
      exact bodyPost_ret (v := .tuple #[.slice A Z.length c, .bool (decide (0 < Z.length))]) (by simp [results, Try.results20, go_sem]) rfl ⟨A, c, by rw [HZ.out], by rw [HZ.out]; exact HO.out.mono B2.out.size, B5⟩
theorem def_both (cnt : Int) (hc1 : -9223372036854775808 ≤ cnt) (hc2 : cnt ≤ 9223372036854775807) (x : Int) (rows : List (List Int)) : ∃ (zs : List Int) (b : Bool), zs.length ≤ 1048576 ∧
    (∀ (A : Option Addr) (m c : Nat) (w : World), Rws w A m c rows → Calls Try.prog 21 #[.agg #[.int .i64 cnt, .slice A m c], .int .i64 x] w (GivesD zs b w)) ∧
    (∀ (A : Option Addr) (m c : Nat) (w : World), Rws w A m c rows → Calls Try.prog 20 #[.agg #[.int .i64 cnt, .slice A m c], .int .i64 x] w (GivesD zs b w)) := by
  cases hv : frB cnt rows && inR x 0 (cnt - 1)
  · refine ⟨[], false, by simp, fun A m c w h => (defI_no cnt hc1 hc2 x rows hv A m c w h).mono ?_, fun A m c w h => (defS_no cnt x rows hv A m c w h).mono ?_⟩ <;>
    · rintro e w' ⟨rfl, b⟩
      exact ⟨none, 0, rfl, ownI_nil _ _, b⟩
  · obtain ⟨n, es, a, rfl, rfl, ok, rfl, ha⟩ := isArg_yes hv
    refine ⟨_, _, ?_, fun A m c w h => defI_ok n es ok a ha hv A m c w h, fun A m c w h => defS_ok n es ok a ha hv A m c w h⟩
    rcases bestF_ok (defB_ne (n := n) (es := es) (a := a) (by have := ok.n10; omega)) (2 ^ n) with ⟨e, _⟩ | ⟨q, _, _, e, _⟩
    · rw [e]; simp
    · rw [e]; have := bitsTo_le q; omega
end Go.Proofs.Ytikodekffdplaaa
