/- The law FnMixed, walked. -/
import Derived.Test.YtfanjnoaifhnnaaMixedMath
import Derived.Test.YtfanjnoaifhnnaaAudMath
import Derived.Test.YtfanjnoaifhnnaaVotes
namespace Go.Proofs.Ytfanjnoaifhnnaa
set_option linter.unusedVariables false
set_option maxRecDepth 100000
open Go.RowKit
def MadeOrd (m : Nat) (w : World) (e : Ending) (w' : World) : Prop := ∃ (A : Option Addr) (c : Nat) (os : List Int), e = .returned (.slice A m c) ∧ OrdP m os ∧ OwnI w' w.heap.size A m c os ∧ Below w.heap.size w w'
theorem R8Order_any (A : Option Addr) (n c : Nat) (bs : List Int) (m : Nat) (w : World) (h : Ints .u8 w A n c bs) (hm : m ≤ 1048576) :
    Calls Try.prog 32 #[.slice A n c, .int .i64 m] w (MadeOrd m w) := by
  go_enter Try.func32, Try.ntmps32
  go_wp2_with fail
  refine (l00From_any A n c bs _ h).mono ?_
  rintro e w1 ⟨g, rfl, hg, hs, hb⟩
  have hgl := hs.lt
  go_wp2_with fail
  refine (pick_any 60000 g A n c bs 0 _ hs (by omega) (by omega) (by omega)).mono ?_
  rintro e w2 ⟨r, k1, rfl, hr, k10, k11, hs2, hg2⟩
  obtain ⟨r0, r1⟩ := hr.lt (by omega)
  have b2 := hb.grown hg2 hb.size (fun x hx => by injection hx with hx; omega)
  have OP : Hid (OrdP m (auditL r m)) := ⟨by rw [auditL_length]; simp, fun i hi => auditL_has r0 hi⟩
  go_wp2_with fail
  refine (l09Shuffle_any r m _ r0 (by omega) hm).mono ?_
  rintro e w3 ⟨A', c', rfl, o, b3⟩
  have b23 := bel_trans b2 b3
  have O := Lib.hid (o.mono b2.size)
  clear o
  go_wp2_with fail
  go_ret
  exact ⟨A', c', _, rfl, OP.out, O.out, b23⟩
theorem r8Same_dr (A : Option Addr) (n c : Nat) (zs : List Int) (B : Option Addr) (d : Nat) (w : World) (h : Ints .i64 w A n c zs) (k : Ints .i64 w B n d zs) :
    Calls Try.prog 71 #[.slice A n c, .slice B n d] w fun e w' => e = .returned (.bool true) ∧ ∃ q, w' = w.drewN q := by
  have hm := h.short
  have qn : ((n : Int) != (n : Int)) = false := by simp
  go_enter Try.func71, Try.ntmps71
  go_wp2_with fail
  go_loopw [5] (fun i wr => ∃ (j q : Nat), j ≤ n ∧ i = .int .i64 j ∧ wr = w.drewN q) (fun i _ => n - (intOf i).toNat)
  case atStart => exact ⟨0, 0, Nat.zero_le _, rfl, rfl⟩
  case round =>
    obtain ⟨j, q, hj, rfl, rfl⟩ := hrel
    by_cases hlt : j < n
    · obtain ⟨b, off, z, rfl, hb, hcell, hz1, hz2, hz⟩ := h.at hlt
      obtain ⟨b', off', y, rfl, hb', hcell', hy1, hy2, hy⟩ := k.at hlt
      obtain rfl : z = y := by have := hy.out; rw [hz.out] at this; simpa using this
      have qz : (z != z) = false := by simp
      go_wp2_with fail
      go_quiet (fail)
      go_wp2_with fail
      go_roundw
      case rel => exact ⟨j + 1, _, by omega, by go_num, by first | rfl | rw [World.drewN_drewN]⟩
      case measure => simp [intOf]; omega
    · go_wp2_with fail
      go_ret
      exact ⟨rfl, _, rfl⟩
theorem r8Rows_same (A : Option Addr) (n c : Nat) (zss : List (List Int)) (B : Option Addr) (d : Nat) (w : World) (h : Rws w A n c zss) (k : Rws w B n d zss) :
    Calls Try.prog 33 #[.slice A n c, .slice B n d] w fun e w' => e = .returned (.bool true) ∧ Below w.heap.size w w' := by
  have hm := h.short
  have qn : ((n : Int) != (n : Int)) = false := by simp
  go_enter Try.func33, Try.ntmps33
  go_wp2_with fail
  go_loopw [5] (fun i wr => ∃ (j : Nat), j ≤ n ∧ i = .int .i64 j ∧ Below w.heap.size w wr) (fun i _ => n - (intOf i).toNat)
  case atStart => exact ⟨0, Nat.zero_le _, rfl, Below.refl _ _⟩
  case round =>
    obtain ⟨j, hj, rfl, hbel⟩ := hrel
    by_cases hlt : j < n
    · obtain ⟨b, off, A', m, c', zs, rfl, hb, hcell, hi, hz⟩ := (h.below hbel).at hlt
      obtain ⟨b', off', B', m', d', ys, rfl, hb', hcell', ki, hy⟩ := (k.below hbel).at hlt
      obtain rfl : zs = ys := by have := hy.out; rw [hz.out] at this; simpa using this
      obtain rfl : m = m' := by rw [← hi.1, ← ki.1]
      have EQ := Lib.hid (fun q' => r8Same_dr A' m c' zs B' d' (wr.drewN q') (hi.drew q') (ki.drew q'))
      clear hi ki
      go_wp2_with fail
      go_quiet ((exact quiet_more' (EQ.out _)))
      go_wp2_with fail
      go_roundw
      case rel => exact ⟨j + 1, by omega, by go_num, below_drewN hbel _⟩
      case measure => simp [intOf]; omega
    · go_wp2_with fail
      go_ret
      exact ⟨rfl, hbel⟩
set_option maxHeartbeats 8000000 in
theorem fnMixed_walk (w : World) (A : Option Addr) (n c : Nat) (zs : List Int) (h : Ints .u8 w A n c zs) (B : Option Addr) (m d : Nat) (ys : List Int) (k : Ints .u8 w B m d ys) :
    Calls Try.prog 7 #[.slice A n c, .slice B m d] w fun e w' => e = .returned (.bool true) ∧ Below w.heap.size w w' := by
  have hn := h.short
  have hm := k.short
  by_cases h1 : (decide ((48 : Int) < n) || decide ((48 : Int) < m)) = true
  · have H1 := Lib.hid h1
    clear h1
    go_enter Try.func7, Try.ntmps7
    go_wp2_with fail
    refine (r8Long_any A n c B m d _ hn hm).mono ?_
    rintro e w1 ⟨rfl, rfl⟩
    rw [H1.out]
    go_wp2_with fail
    go_ret
    exact ⟨rfl, Below.refl _ _⟩
  · have H1 : Hid ((decide ((48 : Int) < n) || decide ((48 : Int) < m)) = false) := by show _ = _; simpa using h1
    clear h1
    go_enter Try.func7, Try.ntmps7
    go_wp2_with fail
    refine (r8Long_any A n c B m d _ hn hm).mono ?_
    rintro e w1 ⟨rfl, rfl⟩
    rw [H1.out]
    go_wp2_with fail
    refine (r8At_any A n c zs 0 5 _ h (by omega) (by omega)).mono ?_
    rintro e w1 ⟨q, rfl, hq, b1⟩
    obtain ⟨q0, q1⟩ := hq.lt (by omega)
    obtain ⟨q, rfl⟩ := Int.eq_ofNat_of_zero_le q0
    clear q0 hq
    go_wp2_with fail
    refine (R8Rows_any A n c zs q (q : Int) rfl _ (h.below b1) (by omega)).mono ?_
    rintro e w2 ⟨VA, vc, vvs, vss, rfl, hv, oV, b2⟩
    have bb2 := bel_trans b1 b2
    have KV := Lib.hid (show KeyP q vss from ⟨oV.len, fun l hl => ⟨(hv l hl).1, fun z hz => (hv l hl).2 z hz⟩⟩)
    have RV := oV.rws
    clear oV hv
    have bs3 : Below w.heap.size w (w2.alloc (.cells #[] 22)) := bel_trans bb2 (bel_alloc _ _)
    have sz2 := b2.size
    go_wp2_with fail
    go_loopw [7, 8] (fun t i wr => ∃ (j : Nat) (A' : Option Addr) (c' : Nat) (vs : List Value) (rss : List (List Int)), j ≤ q ∧ i = .int .i64 j ∧ t = .slice A' j c' ∧ OwnM wr w2.heap.size A' j c' vs rss ∧ SeaP j rss ∧ Below w2.heap.size w2 wr) (fun _ i _ => q - (intOf i).toNat)
    case atStart => exact ⟨0, _, _, [], [], Nat.zero_le _, rfl, rfl, ownM_lit w2, ⟨rfl, by simp⟩, bel_alloc _ _⟩
    case round =>
      obtain ⟨j, A', c', vs, rss, hj, rfl, rfl, oM, hse, hbel⟩ := hrel
      have HM := Lib.hid oM
      have HS := Lib.hid hse
      have br := bb2.trans (hbel.mono bb2.size)
      clear oM hse
      by_cases hlt : j < q
      · obtain ⟨bv, ov, Ak, mk, e1, K1, rfl, hbv, ck, ik, hK1⟩ := RV.at hlt
        obtain ⟨q3, q4⟩ := KV.out.row K1 (mem_of_at hK1.out)
        obtain rfl : mk = 3 := by rw [← ik.1, q3]
        obtain ⟨bo, oo, rfl, hbo, hco⟩ := ik.2.2.2.2 (by omega)
        have CK := Lib.hid (fun (W : World) (hb : Below w2.heap.size w2 W) (q : Nat) (x : Int) (hx : K1[q]? = some x) =>
          (show W.cell? ⟨bv, ov + j, none⟩ = some (.slice (some ⟨bo, oo, none⟩) 3 e1) ∧ W.cell? ⟨bo, oo + q, none⟩ = some (.int .i64 x) from
            ⟨(hb.cell (p := ⟨bv, ov + j, none⟩) hbv).trans ck, (hb.cell (p := ⟨bo, oo + q, none⟩) hbo).trans (hco q x hx)⟩))
        have l1 := Lib.hid q3
        have B1 := Lib.hid q4
        have c31 : e1 ≤ 9223372036854775807 := by have := ik.2.2.1; unfold maxLen at this; omega
        clear ck ik q3 q4 hco
        have j40 : j ≤ 1099511627776 := by omega
        obtain ⟨wo, hwo⟩ : ∃ wo : World, wo = wr := ⟨_, rfl⟩
        subst hwo
        go_wp2_with fail
        go_loopw [9, 10] (fun t i wr => ∃ (p : Nat) (A1 : Option Addr) (c1 : Nat) (R : List Int), p ≤ 3 ∧ i = .int .i64 p ∧ t = .slice A1 p c1 ∧ OwnI wr wo.heap.size A1 p c1 R ∧ (∀ z ∈ R, sealB z = true) ∧ Below wo.heap.size wo wr) (fun _ i _ => 3 - (intOf i).toNat)
        case atStart => exact ⟨0, _, _, [], by omega, rfl, rfl, ownI_lit wo, by simp, bel_alloc _ _⟩
        case round =>
          obtain ⟨p, A1, c1, R, hp, rfl, rfl, oR, hR, hbl⟩ := hrel
          have HO := Lib.hid oR
          have HSR := Lib.hid hR
          have bel5 := hbel.trans (hbl.mono hbel.size)
          have br5 := bb2.trans (bel5.mono bb2.size)
          have hsz := hbl.size
          clear oR hR
          by_cases hlp : p < 3
          · obtain ⟨x, hx⟩ : ∃ x, K1[p]? = some x := ⟨_, List.getElem?_eq_getElem (by rw [l1.out]; omega)⟩
            have bx := B1.out x (mem_of_at hx)
            have XB : Hid (expB x = true) := inR_true.2 bx
            have SS := Lib.hid (fun W (hb : Below wr.heap.size wr W) => CK.out W (bel5.trans (hb.mono bel5.size)) p x hx)
            have s0 := SS.out _ (Below.refl _ _)
            have t0 : Below wr.heap.size wr wr.drew := (Below.refl _ _).drew
            have p40 : p ≤ 1099511627776 := by omega
            have ew : IntKind.i64.wrap ((j : Int) + (p : Int)) = (j : Int) + (p : Int) := IntWalk.i64_in _ (by omega)
            clear hx
            go_wp2_with fail
            go_region_held3 (fun w' => w'.cell? ⟨bv, ov + j, none⟩ = some (.slice (some ⟨bo, oo, none⟩) 3 e1) ∧ w'.cell? ⟨bo, oo + p, none⟩ = some (.int .i64 x)) (first | exact s0 | exact SS.out _ t0 | exact SS.out _ tw | exact SS.out _ (Below.refl _ _)) (first
              | (go_at_call 18; refine (r8At_any B m d ys _ 3 _ (k.below (by first | exact br5 | exact bel_trans br5 t0)) (by omega) (by omega)).mono ?_; rintro e w5 ⟨x1, rfl, hx1, t5⟩; obtain ⟨x10, x11⟩ := hx1.lt (by omega); have tw : Below wr.heap.size wr w5 := ⟨t5.os, t5.tape, t5.output, t5.size, t5.block⟩; have XB1 : Hid (expB x1 = true) := inR_true.2 (by omega); obtain ⟨sv, hsv⟩ : ∃ s, sealO x1 x = s := ⟨_, rfl⟩; have HSV := Lib.hid hsv; have SB : Hid (sealB sv = true) := hsv ▸ sealO_seal x1 x; have sb := seal_bd SB.out; clear hsv)
              | (go_at_call 31; refine (implSealOf_in x1 x sv _ XB1.out XB.out HSV.out).mono ?_; rintro e w6 ⟨rfl, rfl⟩))
            have HO5 := Lib.hid (HO.out.below tw)
            have bl5 := hbl.trans (tw.mono hsz)
            have sz5 := bl5.size
            have z0 : -9223372036854775808 ≤ sv := by omega
            have z1 : sv ≤ 9223372036854775807 := by omega
            go_wp2_with (at_builtin; refine app_int_at w5 rfl _ _ rfl wo.heap.size A1 p c1 R rfl HO5.out sv z0 z1 rfl p40 sz5 ?_; intro A7 c7 w7 p1 p2 p3; have P1 := Lib.hid p1; have bl7 : Below wo.heap.size wo w7 := bl5.grown p2 sz5 (fun x hx => (HO5.out.block x hx).1); clear p1 p2 p3)
            have HS2 := Lib.hid (show ∀ z ∈ R ++ [sv], sealB z = true from mem_snoc HSR.out SB.out)
            go_roundw
            case rel => exact ⟨p + 1, A7, c7, _, by omega, by go_num, rfl, P1.out, HS2.out, bl7⟩
            case measure => simp [intOf]; omega
          · obtain rfl : p = 3 := by omega
            have HM5 := Lib.hid (HM.out.below hbl)
            have apv := apart_new (base := w2.heap.size) (fun v hv g hg => (HM.out.blocks v hv g hg).2) HO.out
            have APV := Lib.hid apv
            have HR := Lib.hid (HO.out.mono hbel.size)
            have sz5 := bel5.size
            have RL := Lib.hid HO.out.len
            have SE2 : Hid (SeaP (j + 1) (rss ++ [R])) := ⟨by rw [List.length_append, HS.out.len]; rfl, fun l hl => by
              rcases List.mem_append.1 hl with hl | hl
              · exact HS.out.row l hl
              · simp at hl; subst hl; exact ⟨RL.out, HSR.out⟩⟩
            clear apv
            go_wp2_with (at_builtin; refine app_row wr rfl _ _ rfl w2.heap.size A' j c' vs rss rfl HM5.out A1 3 c1 R HR.out APV.out rfl j40 sz5 ?_; intro A8 d8 w8 p1 p2; have P1 := Lib.hid p1; have bel8 : Below w2.heap.size w2 w8 := bel5.grown p2 sz5 (fun x hx => (HM5.out.block x hx).1); clear p1 p2)
            go_roundw
            case rel => exact ⟨j + 1, A8, d8, _, _, by omega, by go_num, rfl, P1.out, SE2.out, bel8⟩
            case measure => simp [intOf]; omega
      · obtain rfl : q = j := by omega
        have RR := Lib.hid HM.out.rws
        have RVr := Lib.hid (RV.below hbel)
        clear hbel bs3
        go_wp2_with fail
        refine (R8Order_any A n c zs q _ (h.below br) (by omega)).mono ?_
        rintro e w3 ⟨OA, oc, os, rfl, ho, oO, b3⟩
        have bb3 := bel_trans br b3
        have HO1 := Lib.hid ho
        have IO1 := Lib.hid oO.ints
        have RR3 := Lib.hid (RR.out.below b3)
        clear ho oO
        go_wp2_with fail
        refine (R8Order_any B m d ys q _ (k.below bb3) (by omega)).mono ?_
        rintro e w4 ⟨OB, od, os2, rfl, ho, oO, b4⟩
        have bb4 := bel_trans bb3 b4
        have HO2 := Lib.hid ho
        have IO2 := Lib.hid oO.ints
        have IO14 := Lib.hid (IO1.out.below b4)
        have RR4 := Lib.hid (RR3.out.below b4)
        clear ho oO
        go_wp2_with fail
        refine (R8Rows_any B m d ys q (q : Int) rfl _ (k.below bb4) (by omega)).mono ?_
        rintro e w5 ⟨KA, kc, kvs, kss, rfl, hv, oV, b5⟩
        have bb5 := bel_trans bb4 b5
        have KK := Lib.hid (show KeyP q kss from ⟨oV.len, fun l hl => ⟨(hv l hl).1, fun z hz => (hv l hl).2 z hz⟩⟩)
        have RK := Lib.hid oV.rws
        have b45 := bel_trans b4 b5
        clear oV hv
        go_wp2_with fail
        refine (R8Rows_any A n c zs q (q : Int) rfl _ (h.below bb5) (by omega)).mono ?_
        rintro e w6 ⟨KB, kd, kws, kss2, rfl, hv, oV, b6⟩
        have bb6 := bel_trans bb5 b6
        have KK2 := Lib.hid (show KeyP q kss2 from ⟨oV.len, fun l hl => ⟨(hv l hl).1, fun z hz => (hv l hl).2 z hz⟩⟩)
        have RK2 := Lib.hid oV.rws
        have RK6 := Lib.hid (RK.out.below b6)
        have I1 := Lib.hid (((IO1.out.below b4).below b5).below b6)
        have I2 := Lib.hid ((IO2.out.below b5).below b6)
        have RR6 := Lib.hid ((RR4.out.below b5).below b6)
        clear oV hv IO1 IO2 IO14 RR RR3 RR4 RK
        obtain ⟨M1, M2⟩ := mixS_mk (show q ≤ 12 by omega) HS.out HO1.out KK.out
        have SO := Lib.hid (HS.out.mix HO1.out KK.out)
        obtain ⟨M3, M4⟩ := mixS_mk (show q ≤ 12 by omega) SO.out HO2.out KK2.out
        obtain ⟨M5, M6, M7⟩ := cmp_mk (show q ≤ 12 by omega) HO1.out KK.out HO2.out KK2.out
        have OC := Lib.hid (HO1.out.comp HO2.out)
        have KC := Lib.hid (KK.out.comp KK2.out HO2.out)
        obtain ⟨M8, M9⟩ := mixS_mk (show q ≤ 12 by omega) HS.out OC.out KC.out
        have TW := mixed_twice HS.out HO1.out KK.out HO2.out KK2.out
        obtain ⟨on, hon⟩ : ∃ x, mrows rss kss os q = x := ⟨_, rfl⟩
        obtain ⟨tw, htw⟩ : ∃ x, mrows on kss2 os2 q = x := ⟨_, rfl⟩
        obtain ⟨co, hco⟩ : ∃ x, coneL os os2 q = x := ⟨_, rfl⟩
        obtain ⟨ca, hca⟩ : ∃ x, callL kss kss2 os2 q = x := ⟨_, rfl⟩
        rw [hon] at M2 M3 M4 SO TW
        rw [htw] at M4 TW
        rw [hco] at M6 M8 M9 OC TW
        rw [hca] at M7 M8 M9 KC TW
        rw [← TW] at M9
        have LON := Lib.hid (show on.length = q from SO.out.len)
        have LTW := Lib.hid (show tw.length = q by rw [← htw]; exact mrows_len _ _ _ _)
        have LCO := Lib.hid OC.out.len
        have LCA := Lib.hid KC.out.len
        have X1 := Lib.hid M1
        have X2 := Lib.hid M2
        have X3 := Lib.hid M3
        have X4 := Lib.hid M4
        have X5 := Lib.hid M5
        have X6 := Lib.hid M6
        have X7 := Lib.hid M7
        have X8 := Lib.hid M8
        have X9 := Lib.hid M9
        have XON := Lib.hid hon
        clear M1 M2 M3 M4 M5 M6 M7 M8 M9 TW hon htw hco hca
        go_wp2_with fail
        refine (implMixSeals_any _ q _ rss _ q _ os _ q _ kss _ RR6.out I1.out RK6.out (by omega) (by omega)).mono ?_
        rintro e w7 ⟨GA, gc, gvs, rfl, oG, b7⟩
        rw [X1.out, X2.out, LON.out]
        rw [X2.out, LON.out] at oG
        have RG := Lib.hid oG.rws
        have bb7 := bel_trans bb6 b7
        have I17 := Lib.hid (I1.out.below b7)
        have I27 := Lib.hid (I2.out.below b7)
        have RR7 := Lib.hid (RR6.out.below b7)
        have RK7 := Lib.hid (RK6.out.below b7)
        have RK27 := Lib.hid (RK2.out.below b7)
        clear oG
        go_wp2_with fail
        refine (implMixSeals_any _ q _ on _ q _ os2 _ q _ kss2 _ RG.out I27.out RK27.out (by omega) (by omega)).mono ?_
        rintro e w8 ⟨TA, tc, tvs, rfl, oG, b8⟩
        rw [X3.out, X4.out, LTW.out]
        rw [X4.out, LTW.out] at oG
        have RT := Lib.hid oG.rws
        have bb8 := bel_trans bb7 b8
        have I18 := Lib.hid (I17.out.below b8)
        have I28 := Lib.hid (I27.out.below b8)
        have RR8 := Lib.hid (RR7.out.below b8)
        have RK8 := Lib.hid (RK7.out.below b8)
        have RK28 := Lib.hid (RK27.out.below b8)
        have RG8 := Lib.hid (RG.out.below b8)
        clear oG I1 I2 RR6 RK6 RK2 I17 I27 RR7 RK7 RK27 RG
        go_wp2_with fail
        refine (implCompose_any _ q _ os _ q _ kss _ q _ os2 _ q _ kss2 _ I18.out RK8.out I28.out RK28.out (by omega) (by omega)).mono ?_
        rintro e w9 ⟨CA, cc, CB, cd, cvs, rfl, oC, oD, _, b9⟩
        rw [X5.out, X6.out, X7.out, LCO.out, LCA.out]
        rw [X6.out, LCO.out] at oC
        rw [X7.out, LCA.out] at oD
        have IC := Lib.hid oC.ints
        have RC := Lib.hid oD.rws
        have bb9 := bel_trans bb8 b9
        have RR9 := Lib.hid (RR8.out.below b9)
        have RK9 := Lib.hid (RK8.out.below b9)
        have RG9 := Lib.hid (RG8.out.below b9)
        have RT9 := Lib.hid (RT.out.below b9)
        clear oC oD
        go_wp2_with fail
        refine (implMixSeals_any _ q _ rss _ q _ co _ q _ ca _ RR9.out IC.out RC.out (by omega) (by omega)).mono ?_
        rintro e w10 ⟨SA, sc, svs, rfl, oG, b10⟩
        rw [X8.out, X9.out, LTW.out]
        rw [X9.out, LTW.out] at oG
        have RS := Lib.hid oG.rws
        have bb10 := bel_trans bb9 b10
        have RR10 := Lib.hid (RR9.out.below b10)
        have RK10 := Lib.hid (RK9.out.below b10)
        have RG10 := Lib.hid (RG9.out.below b10)
        have RT10 := Lib.hid (RT9.out.below b10)
        have qq : ((q : Int) != (q : Int)) = false := by simp
        clear oG
        go_wp2_with fail
        refine (r8Rows_same _ q _ tw _ _ _ RT10.out RS.out).mono ?_
        rintro e w11 ⟨rfl, b11⟩
        have bb11 := bel_trans bb10 b11
        have RR11 := Lib.hid (RR10.out.below b11)
        have RK11 := Lib.hid (RK10.out.below b11)
        have RG11 := Lib.hid (RG10.out.below b11)
        clear RR8 RK8 I18 I28 RK28 RG8 RT IC RC RR9 RK9 RG9 RT9 RS RR10 RK10 RG10 RT10 X1 X2 X3 X4 X5 X6 X7 X8 X9
        go_wp2_with fail
        go_loopw [26, 27] (fun t i wr => ∃ (j : Nat) (A1 : Option Addr) (c1 : Nat), j ≤ q ∧ i = .int .i64 j ∧ t = .slice A1 j c1 ∧ OwnI wr w11.heap.size A1 j c1 (List.replicate j 1) ∧ Below w11.heap.size w11 wr) (fun _ i _ => q - (intOf i).toNat)
        case atStart => exact ⟨0, _, _, Nat.zero_le _, rfl, rfl, ownI_lit w11, bel_alloc _ _⟩
        case round =>
          obtain ⟨j, A1, c1, hj, rfl, rfl, oN, hbl⟩ := hrel
          have HN := Lib.hid oN
          have hsz := hbl.size
          have j40 : j ≤ 1099511627776 := by omega
          clear oN
          by_cases hlt : j < q
          · have z0 : -9223372036854775808 ≤ (1 : Int) := by omega
            have z1 : (1 : Int) ≤ 9223372036854775807 := by omega
            go_wp2_with (at_builtin; refine app_int_at wr rfl _ _ rfl w11.heap.size A1 j c1 _ rfl HN.out 1 z0 z1 rfl j40 hsz ?_; intro A7 c7 w7 p1 p2 p3; have P1 := Lib.hid p1; have bl7 : Below w11.heap.size w11 w7 := hbl.grown p2 hsz (fun x hx => (HN.out.block x hx).1); clear p1 p2 p3)
            go_roundw
            case rel => exact ⟨j + 1, A7, c7, by omega, by go_num, rfl, by rw [List.replicate_succ']; exact P1.out, bl7⟩
            case measure => simp [intOf]; omega
          · obtain rfl : q = j := by omega
            have IN := Lib.hid HN.out.ints
            obtain ⟨w12, hw12⟩ : ∃ W : World, W = wr := ⟨_, rfl⟩
            subst hw12
            have s12 := hbl.size
            go_wp2_with fail
            go_loopw [28] (fun i wr => ∃ kk : Nat, kk ≤ 3 ∧ i = .int .i64 kk ∧ Below w12.heap.size w12 wr) (fun i _ => 3 - (intOf i).toNat)
            case atStart => exact ⟨0, by omega, rfl, Below.refl _ _⟩
            case round =>
              obtain ⟨kk, hkk, rfl, hb12⟩ := hrel
              by_cases hl3 : kk < 3
              · obtain ⟨wo, hwo⟩ : ∃ W : World, W = wr := ⟨_, rfl⟩
                subst hwo
                have s13 := hb12.size
                have hd3 : decide ((kk : Int) < 3) = true := by simp; omega
                go_wp2_with fail
                clear hd3
                go_loopw [29, 30, 31, 32] (fun a b c i wr => ∃ (j : Nat) (A1 A2 A3 : Option Addr) (c1 c2 c3 : Nat), j ≤ q ∧ i = .int .i64 j ∧ a = .slice A1 j c1 ∧ b = .slice A2 j c2 ∧ c = .slice A3 j c3 ∧ OwnI wr wo.heap.size A1 j c1 (colL rss kk j) ∧ OwnI wr wo.heap.size A2 j c2 (colL on kk j) ∧ OwnI wr wo.heap.size A3 j c3 (colL kss kk j) ∧
                  Apart (.slice A1 j c1) (.slice A2 j c2) ∧ Apart (.slice A1 j c1) (.slice A3 j c3) ∧ Apart (.slice A2 j c2) (.slice A3 j c3) ∧ Below wo.heap.size wo wr) (fun _ _ _ i _ => q - (intOf i).toNat)
                case atStart =>
                  have e1 : ∀ (W : World) (o : Obj), (W.alloc o).heap.size = W.heap.size + 1 := fun W o => by simp
                  have L1 := ((ownI_lit wo).below (bel_alloc _ (.cells #[] 2))).below (bel_alloc _ (.cells #[] 2))
                  have L2 := ((ownI_lit (wo.alloc (.cells #[] 2))).below (bel_alloc _ (.cells #[] 2))).mono (b2 := wo.heap.size) (by simp)
                  have L3 := (ownI_lit ((wo.alloc (.cells #[] 2)).alloc (.cells #[] 2))).mono (b2 := wo.heap.size) (by simp; omega)
                  rw [e1] at L2
                  rw [e1, e1] at L3
                  exact ⟨0, _, _, _, _, _, _, Nat.zero_le _, rfl, rfl, rfl, rfl, L1, L2, L3, .inr (by simp [Value.ownBlock]), .inr (by simp [Value.ownBlock]; omega), .inr (by simp [Value.ownBlock]), bel_trans (bel_alloc _ _) (bel_trans (bel_alloc _ _) (bel_alloc _ _))⟩
                case round =>
                  obtain ⟨j, A1, A2, A3, c1, c2, c3, hj, rfl, rfl, rfl, rfl, o1, o2, o3, a12, a13, a23, hbl5⟩ := hrel
                  have P1 := Lib.hid o1
                  have P2 := Lib.hid o2
                  have P3 := Lib.hid o3
                  have sz5 := hbl5.size
                  have bw := hbl.trans ((hb12.trans (hbl5.mono s13)).mono s12)
                  clear o1 o2 o3
                  by_cases hlt : j < q
                  · obtain ⟨b0, f0, A0, m0, e0, R0, rfl, hb0, hc0, hi0, hR0⟩ := RR11.out.at hlt
                    obtain ⟨b1, f1, B0, m1, e1, R1, rfl, hb1, hc1, hi1, hR1⟩ := RG11.out.at hlt
                    obtain ⟨b2, f2, C0, m2, e2, R2, rfl, hb2, hc2, hi2, hR2⟩ := RK11.out.at hlt
                    obtain ⟨l0, t0⟩ := HS.out.row R0 (mem_of_at hR0.out)
                    obtain ⟨l1, t1⟩ := SO.out.row R1 (mem_of_at hR1.out)
                    obtain ⟨l2, t2⟩ := KK.out.row R2 (mem_of_at hR2.out)
                    obtain rfl : m0 = 3 := by rw [← hi0.1, l0]
                    obtain rfl : m1 = 3 := by rw [← hi1.1, l1]
                    obtain rfl : m2 = 3 := by rw [← hi2.1, l2]
                    obtain ⟨g0, p0, rfl, hg0, hd0⟩ := hi0.2.2.2.2 (by omega)
                    obtain ⟨g1, p1, rfl, hg1, hd1⟩ := hi1.2.2.2.2 (by omega)
                    obtain ⟨g2, p2, rfl, hg2, hd2⟩ := hi2.2.2.2.2 (by omega)
                    obtain ⟨x0, hx0⟩ : ∃ x, R0[kk]? = some x := ⟨_, List.getElem?_eq_getElem (by omega)⟩
                    obtain ⟨x1, hx1⟩ : ∃ x, R1[kk]? = some x := ⟨_, List.getElem?_eq_getElem (by omega)⟩
                    obtain ⟨x2, hx2⟩ : ∃ x, R2[kk]? = some x := ⟨_, List.getElem?_eq_getElem (by omega)⟩
                    have CK := Lib.hid (fun (W : World) (hb : Below w11.heap.size w11 W) =>
                      (show W.cell? ⟨b0, f0 + j, none⟩ = some (.slice (some ⟨g0, p0, none⟩) 3 e0) ∧ W.cell? ⟨g0, p0 + kk, none⟩ = some (.int .i64 x0) ∧ W.cell? ⟨b1, f1 + j, none⟩ = some (.slice (some ⟨g1, p1, none⟩) 3 e1) ∧ W.cell? ⟨g1, p1 + kk, none⟩ = some (.int .i64 x1) ∧
                        W.cell? ⟨b2, f2 + j, none⟩ = some (.slice (some ⟨g2, p2, none⟩) 3 e2) ∧ W.cell? ⟨g2, p2 + kk, none⟩ = some (.int .i64 x2) from
                        ⟨(hb.cell (p := ⟨b0, f0 + j, none⟩) hb0).trans hc0, (hb.cell (p := ⟨g0, p0 + kk, none⟩) hg0).trans (hd0 _ _ hx0), (hb.cell (p := ⟨b1, f1 + j, none⟩) hb1).trans hc1, (hb.cell (p := ⟨g1, p1 + kk, none⟩) hg1).trans (hd1 _ _ hx1),
                          (hb.cell (p := ⟨b2, f2 + j, none⟩) hb2).trans hc2, (hb.cell (p := ⟨g2, p2 + kk, none⟩) hg2).trans (hd2 _ _ hx2)⟩))
                    have S0 := seal_bd (t0 x0 (mem_of_at hx0))
                    have S1 : Hid (sealB x1 = true) := t1 x1 (mem_of_at hx1)
                    have S1b := seal_bd S1.out
                    have S2 := t2 x2 (mem_of_at hx2)
                    have N0 := Lib.hid (colL_succ hR0.out hx0)
                    have N1 := Lib.hid (colL_succ hR1.out hx1)
                    have N2 := Lib.hid (colL_succ hR2.out hx2)
                    have y00 : -9223372036854775808 ≤ x0 := by omega
                    have y01 : x0 ≤ 9223372036854775807 := by omega
                    have y10 : -9223372036854775808 ≤ x1 := by omega
                    have y11 : x1 ≤ 9223372036854775807 := by omega
                    have y20 : -9223372036854775808 ≤ x2 := by omega
                    have y21 : x2 ≤ 9223372036854775807 := by omega
                    have v0 : e0 ≤ 9223372036854775807 := by have := hi0.2.2.1; unfold maxLen at this; omega
                    have v1 : e1 ≤ 9223372036854775807 := by have := hi1.2.2.1; unfold maxLen at this; omega
                    have v2 : e2 ≤ 9223372036854775807 := by have := hi2.2.2.1; unfold maxLen at this; omega
                    have j40 : j ≤ 1099511627776 := by omega
                    clear hc0 hc1 hc2 hi0 hi1 hi2 l0 l1 l2 t0 t1 t2 hd0 hd1 hd2 hx0 hx1 hx2
                    obtain ⟨k0, k1, k2, k3, k4, k5⟩ := CK.out _ bw
                    have H12 := Lib.hid a12
                    have H13 := Lib.hid a13
                    have H23 := Lib.hid a23
                    have HBW := Lib.hid bw
                    have HBL5 := Lib.hid hbl5
                    have HBL := Lib.hid hbl
                    have HB12 := Lib.hid hb12
                    clear a12 a13 a23 bw hbl5 hbl hb12 RR11 RG11 RK11 HS SO KK KV RV HO1 HO2 KK2 OC KC LON LTW LCO LCA XON HM HN b3 b4 b5 b6 b7 b8 b9 b10 b11 b45 bb2 bb3 bb4 bb5 bb6 bb7 bb8 bb9 bb10 bb11 br H1 hb0 hb1 hb2 hg0 hg1 hg2 hR0 hR1 hR2 S2 RVr h k
                    go_wp2_with fail
                    refine (implIsSeal_any x1 _).mono ?_
                    rintro e w_ ⟨rfl, rfl⟩
                    rw [S1.out]
                    go_wp2_with (first
                      | (at_builtin; refine app_int_at wr rfl _ _ rfl wo.heap.size A1 j c1 _ rfl P1.out x0 y00 y01 rfl j40 sz5 ?_; intro A4 c4 w6 p1 p2 p3; have P14 := Lib.hid p1; have P24 := Lib.hid (P2.out.kept_apart H12.out.symm p2); have P34 := Lib.hid (P3.out.kept_apart H13.out.symm p2); have a124 := Lib.hid <| apart_step H12.out p3 (fun x hx => (P2.out.block x hx).2); have a134 := Lib.hid <| apart_step H13.out p3 (fun x hx => (P3.out.block x hx).2); have bl6 : Below wo.heap.size wo w6 := HBL5.out.grown p2 sz5 (fun x hx => (P1.out.block x hx).1); have sz6 := bl6.size; have bw6 := HBL.out.trans ((HB12.out.trans (bl6.mono s13)).mono s12); obtain ⟨r0, r1, r2, r3, r4, r5⟩ := CK.out _ bw6; clear p1 p2 p3)
                      | (at_builtin; refine app_int_at w6 rfl _ _ rfl wo.heap.size A2 j c2 _ rfl P24.out x1 y10 y11 rfl j40 sz6 ?_; intro A5 c5 w7 p1 p2 p3; have P15 := Lib.hid (P14.out.kept_apart a124.out p2); have P25 := Lib.hid p1; have P35 := Lib.hid (P34.out.kept_apart H23.out.symm p2); have a125 := Lib.hid (apart_step a124.out.symm p3 (fun x hx => (P14.out.block x hx).2)).symm; have a235 := Lib.hid <| apart_step H23.out p3 (fun x hx => (P34.out.block x hx).2); have bl7 : Below wo.heap.size wo w7 := bl6.grown p2 sz6 (fun x hx => (P24.out.block x hx).1); have sz7 := bl7.size; have bw7 := HBL.out.trans ((HB12.out.trans (bl7.mono s13)).mono s12); obtain ⟨i0, i1, i2, i3, i4, i5⟩ := CK.out _ bw7; clear p1 p2 p3)
                      | (at_builtin; refine app_int_at w7 rfl _ _ rfl wo.heap.size A3 j c3 _ rfl P35.out x2 y20 y21 rfl j40 sz7 ?_; intro A6 c6 w8 p1 p2 p3; have P16 := Lib.hid (P15.out.kept_apart a134.out p2); have P26 := Lib.hid (P25.out.kept_apart a235.out p2); have P36 := Lib.hid p1; have a136 := Lib.hid (apart_step a134.out.symm p3 (fun x hx => (P15.out.block x hx).2)).symm; have a236 := Lib.hid (apart_step a235.out.symm p3 (fun x hx => (P25.out.block x hx).2)).symm; have bl8 : Below wo.heap.size wo w8 := bl7.grown p2 sz7 (fun x hx => (P35.out.block x hx).1); clear p1 p2 p3))
                    go_roundw
                    case rel =>
                      exact ⟨j + 1, A4, A5, A6, c4, c5, c6, by omega, by go_num, rfl, rfl, rfl, by rw [N0.out]; exact P16.out, by rw [N1.out]; exact P26.out, by rw [N2.out]; exact P36.out, a125.out, a136.out, a236.out, bl8⟩
                    case measure => simp [intOf]; omega
                  · obtain rfl : q = j := by omega
                    obtain ⟨j1, j2⟩ := join_s (colL_len rss kk q) (show q ≤ 12 by omega) (col_seal hl3 HS.out)
                    obtain ⟨j3, j4⟩ := join_s (colL_len on kk q) (show q ≤ 12 by omega) (col_seal hl3 SO.out)
                    obtain ⟨j5, j6⟩ := join_k (colL_len kss kk q) (show q ≤ 12 by omega) (col_key hl3 KK.out)
                    obtain ⟨j7, j8⟩ := mixed_col (show q ≤ 12 by omega) hl3 HS.out HO1.out KK.out
                    rw [XON.out] at j8
                    have sX := seal_bd (prod_seal (col_seal hl3 HS.out))
                    have sZ := seal_bd (sealO_seal 0 (sumK 0 (colL kss kk q)))
                    have sK := sumK_bd (colL kss kk q)
                    obtain ⟨X, hX⟩ : ∃ x, prodS 1 (colL rss kk q) = x := ⟨_, rfl⟩
                    obtain ⟨Y, hY⟩ : ∃ x, prodS 1 (colL on kk q) = x := ⟨_, rfl⟩
                    obtain ⟨K, hK⟩ : ∃ x, sumK 0 (colL kss kk q) = x := ⟨_, rfl⟩
                    rw [hK] at j6 j7 j8 sZ sK
                    obtain ⟨Z, hZ⟩ : ∃ x, sealO 0 K = x := ⟨_, rfl⟩
                    rw [hX] at j2 j7 j8 sX
                    rw [hY] at j4 j8
                    rw [hZ] at j7 j8 sZ
                    have J1 := Lib.hid j1
                    have J2 := Lib.hid j2
                    have J3 := Lib.hid j3
                    have J4 := Lib.hid j4
                    have J5 := Lib.hid j5
                    have J6 := Lib.hid j6
                    have J7 := Lib.hid j7
                    have J8 := Lib.hid j8
                    have HZ := Lib.hid hZ
                    have EK : Hid (expB K = true) := inR_true.2 (by omega)
                    have E0 : Hid (expB 0 = true) := inR_true.2 (by omega)
                    have I1 := Lib.hid P1.out.ints
                    have I2 := Lib.hid P2.out.ints
                    have I3 := Lib.hid P3.out.ints
                    have bwo : Below w12.heap.size w12 wr := hb12.trans (hbl5.mono s13)
                    have IN5 := Lib.hid (IN.out.below bwo)
                    have qy : (Y != Y) = false := by simp
                    have BBX := Lib.hid (bb11.trans (bw.mono bb11.size))
                    clear j1 j2 j3 j4 j5 j6 j7 j8 hX hY hK hZ a12 a13 a23 P1 P2 P3 KV HO2 KK2 OC KC LON LTW LCO LCA XON HM
                    go_wp2_with fail
                    refine (implJoinSeals_any _ q _ _ _ q _ _ _ I1.out IN5.out).mono ?_
                    rintro e w20 ⟨rfl, t20⟩
                    rw [J1.out, J2.out]
                    go_wp2_with fail
                    refine (implJoinSeals_any _ q _ _ _ q _ _ _ (I2.out.below t20) (IN5.out.below t20)).mono ?_
                    rintro e w21 ⟨rfl, t21⟩
                    rw [J3.out, J4.out]
                    have t1 := bel_trans t20 t21
                    go_wp2_with fail
                    refine (implJoinKeys_any _ q _ _ _ q _ _ _ (I3.out.below t1) (IN5.out.below t1)).mono ?_
                    rintro e w22 ⟨rfl, t22⟩
                    rw [J5.out, J6.out]
                    have t2 := bel_trans t1 t22
                    go_wp2_with fail
                    refine (implSealOf_in 0 K Z _ E0.out EK.out HZ.out).mono ?_
                    rintro e w_ ⟨rfl, rfl⟩
                    have O1 := (ownI_lits w22 [X, Z] (by intro z hz; simp at hz; rcases hz with rfl | rfl <;> exact WalkArith.wf_i64 ⟨by omega, by omega⟩) (by simp)).ints.below (bel_alloc _ (.cells #[.int .i64 1, .int .i64 1] 2))
                    have O2 := (ownI_lits (w22.alloc (.cells #[.int .i64 X, .int .i64 Z] 2)) [1, 1] (by intro z hz; simp at hz; subst hz; decide) (by simp)).ints
                    have e1 : (w22.alloc (.cells #[.int .i64 X, .int .i64 Z] 2)).heap.size = w22.heap.size + 1 := by simp
                    rw [e1] at O2
                    have H1' := Lib.hid O1
                    have H2' := Lib.hid O2
                    have t3 := bel_trans t2 (bel_trans (bel_alloc w22 (.cells #[.int .i64 X, .int .i64 Z] 2)) (bel_alloc _ (.cells #[.int .i64 1, .int .i64 1] 2)))
                    clear O1 O2 e1
                    go_wp2_with fail
                    refine (implJoinSeals_any _ 2 _ [X, Z] _ 2 _ [1, 1] _ H1'.out H2'.out).mono ?_
                    rintro e w23 ⟨rfl, t23⟩
                    rw [show joinB [X, Z] [1, 1] sealB = true from J7.out, show joinSV [X, Z] [1, 1] = Y from J8.out]
                    have t4 := bel_trans t3 t23
                    go_wp2_with fail
                    exact ⟨⟨kk + 1, by omega, by go_num, bel_trans bwo t4⟩, by simp [intOf]; omega⟩
              · obtain rfl : kk = 3 := by omega
                have bwx := hbl.trans (hb12.mono s12)
                have bbx := bel_trans bb11 bwx
                go_wp2_with fail
                go_ret
                exact ⟨rfl, bbx⟩
end Go.Proofs.Ytfanjnoaifhnnaa
