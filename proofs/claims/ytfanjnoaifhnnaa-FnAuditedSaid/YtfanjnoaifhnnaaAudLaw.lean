/- The law FnAudited: the walk. -/
import Derived.Test.YtfanjnoaifhnnaaMarginLaw
import Derived.Test.YtfanjnoaifhnnaaAudMath
import Derived.Test.YtfanjnoaifhnnaaRun
import Derived.Test.YtfanjnoaifhnnaaMul
namespace Go.Proofs.Ytfanjnoaifhnnaa
set_option linter.unusedVariables false
open Go.RowKit
theorem r8Has_any (A : Option Addr) (n c : Nat) (zs : List Int) (x : Int) (w : World) (h : Ints .i64 w A n c zs) :
    Calls Try.prog 78 #[.slice A n c, .int .i64 x] w fun e w' => e = .returned (.bool (zs.any (· == x))) ∧ w = w' := by
  have hm := h.short
  have hl := Lib.hid h.1
  go_enter Try.func78, Try.ntmps78
  go_wp2_with fail
  go_loop [5] (fun i => ∃ k : Nat, k ≤ n ∧ i = .int .i64 k ∧ (zs.take k).any (· == x) = false) (fun i => n - (intOf i).toNat)
  case atStart => exact ⟨0, Nat.zero_le _, rfl, rfl⟩
  case round =>
    obtain ⟨k, hk, rfl, hany⟩ := hrel
    have HA := Lib.hid hany
    clear hany
    by_cases hlt : k < n
    · obtain ⟨b, off, z, rfl, hb, hcell, hz1, hz2, hz⟩ := h.at hlt
      by_cases hzx : z = x
      · have hq : (z == x) = true := by simp [hzx]
        have R := Lib.hid (any_stop (p := (· == x)) hz.out hq)
        clear hzx
        go_wp2_with fail
        go_ret
        exact ⟨ret_bool R.out.symm, rfl⟩
      · have hq : (z == x) = false := by simpa using hzx
        have R := Lib.hid (any_next (p := (· == x)) hz.out HA.out hq)
        clear hzx
        go_wp2_with fail
        go_round
        case rel => exact ⟨k + 1, by omega, by go_num, R.out⟩
        case measure => simp [intOf]; omega
    · have R := Lib.hid (any_end (p := (· == x)) (by rw [hl.out]; omega) HA.out)
      go_wp2_with fail
      go_ret
      exact ⟨ret_bool R.out.symm, rfl⟩
theorem r8Ranks_yes (A : Option Addr) (n c : Nat) (zs : List Int) (w : World) (h : Ints .i64 w A n c zs) (hz : ∀ k : Nat, k < n → (k : Int) ∈ zs) :
    Calls Try.prog 40 #[.slice A n c, .int .i64 n] w fun e w' => e = .returned (.bool true) ∧ w = w' := by
  have hm := h.short
  have HZ := Lib.hid hz
  clear hz
  go_enter Try.func40, Try.ntmps40
  go_wp2_with fail
  go_loop [5] (fun i => ∃ k : Nat, k ≤ n ∧ i = .int .i64 k) (fun i => n - (intOf i).toNat)
  case atStart => exact ⟨0, Nat.zero_le _, rfl⟩
  case round =>
    obtain ⟨k, hk, rfl⟩ := hrel
    by_cases hlt : k < n
    · have R : Hid (zs.any (· == (k : Int)) = true) := by show _ = _; rw [List.any_eq_true]; exact ⟨k, HZ.out k hlt, by simp⟩
      go_wp2_with fail
      refine (r8Has_any A n c zs (k : Int) _ h).mono ?_
      rintro e w1 ⟨rfl, rfl⟩
      rw [R.out]
      go_wp2_with fail
      go_round
      case rel => exact ⟨k + 1, by omega, by go_num⟩
      case measure => simp [intOf]; omega
    · obtain rfl : k = n := by omega
      go_wp2_with fail
      go_ret
      exact ⟨rfl, rfl⟩
theorem red_unit {d : Int} (h : 1 ≤ d) : redN 1 d = 1 ∧ redD 1 d = d := by
  refine red_one ?_
  unfold gcdI
  rw [show absI 1 = 1 from by decide]
  simp
theorem okF_unit {d : Int} (h : 1 ≤ d) (h2 : d ≤ 1000000000) : okF 1 d = true := by
  have := red_ok (n := 1) (d := d) (by omega) (by omega) h h2
  obtain ⟨e1, e2⟩ := red_unit h
  rwa [e1, e2] at this
set_option maxRecDepth 100000 in
set_option maxHeartbeats 8000000 in
theorem fnAudited_walk (w : World) (A : Option Addr) (n c : Nat) (zs : List Int) (h : Ints .u8 w A n c zs) (B : Option Addr) (m d : Nat) (ys : List Int) (k : Ints .u8 w B m d ys) :
    Calls Try.prog 8 #[.slice A n c, .slice B m d] w fun e w' => e = .returned (.bool true) ∧ Below w.heap.size w w' := by
  have hn := h.short
  have hm := k.short
  by_cases h1 : (decide ((48 : Int) < n) || decide ((48 : Int) < m)) = true
  · have H1 := Lib.hid h1
    clear h1
    go_enter Try.func8, Try.ntmps8
    go_wp2_with fail
    refine (r8Long_any A n c B m d _ hn hm).mono ?_
    rintro e w1 ⟨rfl, rfl⟩
    rw [H1.out]
    go_wp2_with fail
    go_ret
    exact ⟨rfl, Below.refl _ _⟩
  · have H1 : Hid ((decide ((48 : Int) < n) || decide ((48 : Int) < m)) = false) := by show _ = _; simpa using h1
    clear h1
    go_enter Try.func8, Try.ntmps8
    go_wp2_with fail
    refine (r8Long_any A n c B m d _ hn hm).mono ?_
    rintro e w1 ⟨rfl, rfl⟩
    rw [H1.out]
    go_wp2_with fail
    refine (R8Votes_any A n c zs _ h).mono ?_
    rintro e w4 ⟨q, V, cv, W, cw, vs, ws, rfl, hf, oV, oW, b4⟩
    have hv := few_votes hf
    have HF := Lib.hid hf
    have HV := Lib.hid hv
    have IV4 := oV.ints
    have IW4 := oW.ints
    have lv := Lib.hid hf.lv
    have lw := Lib.hid hf.lw
    have q8 := hf.n8
    have s4 := b4.size
    have VM := Lib.hid (fun (xs : List Int) (h1 : xs.length = q) (hx : ∀ z ∈ xs, voteB z = true) => votesB_mk h1 hf.lw (by omega) hx (fun z hz => inR_true.2 (by have := hf.hw z hz; omega)))
    have FL := Lib.hid (fun (xs : List Int) (h1 : vs.length = xs.length) (hx : ∀ z ∈ xs, voteB z = true) (hne : adopt xs ws ≠ adopt vs ws) => flip_needs (vs := vs) (ws := ws) h1 (by rw [hf.lv, hf.lw]) (fun z hz => inR_true.2 (hf.hv z hz)) hx (fun z hz => (hf.hw z hz).1) hne)
    clear hf hv oV oW
    go_wp2_with fail
    go_loopw [8, 9, 10] (fun t u i wr => ∃ (j : Nat) (A' : Option Addr) (c' : Nat) (xs : List Int) (cn : Nat), j ≤ q ∧ i = .int .i64 j ∧ u = .int .i64 cn ∧ cn ≤ j ∧ t = .slice A' j c' ∧ OwnI wr w4.heap.size A' j c' xs ∧ (∀ z ∈ xs, voteB z = true) ∧ cn = chgN (vs.take j) xs ∧ Below w4.heap.size w4 wr) (fun _ _ i _ => q - (intOf i).toNat)
    case atStart => exact ⟨0, _, _, [], 0, Nat.zero_le _, rfl, rfl, Nat.le_refl _, rfl, ownI_lit _, by simp, by simp [chgN], bel_alloc _ _⟩
    case round =>
      obtain ⟨j, A', c', xs, cn, hj, rfl, rfl, hcj, rfl, ho, hx, hcn, hbel⟩ := hrel
      have HOW := Lib.hid ho
      have HX := Lib.hid hx
      have HCN := Lib.hid hcn
      have br := b4.trans (hbel.mono s4)
      clear ho hx hcn
      by_cases hlt : j < q
      · obtain ⟨bo, oo, v, rfl, hbo, cv', v1, v2, hv⟩ := (IV4.below hbel).at hlt
        have bv := HF.out.hv v (mem_of_at hv.out)
        go_wp2_with fail
        refine (r8At_any B m d ys (j : Int) 2 _ (k.below br) (by omega) (by omega)).mono ?_
        rintro e w5 ⟨x1, rfl, hx1, t5⟩
        obtain ⟨x10, x11⟩ := hx1.lt (by omega)
        have cv5 := (t5.cell (p := ⟨bo, oo + j, none⟩) hbo).trans cv'
        have hbo5 := Nat.lt_of_lt_of_le hbo t5.size
        have br5 := bel_trans br t5
        have O5 := Lib.hid (HOW.out.below t5)
        have bel5 : Below w4.heap.size w4 w5 := hbel.trans (t5.mono hbel.size)
        have sz5 := bel5.size
        clear cv' hbo
        by_cases hz0 : x1 = 0
        · have hz0' : (x1 == 0) = true := by simp [hz0]
          go_wp2_with fail
          refine (r8At_any B m d ys ((j : Int) + 9) 3 _ (k.below br5) (by omega) (by omega)).mono ?_
          rintro e w6 ⟨x2, rfl, hx2, t6⟩
          obtain ⟨x20, x21⟩ := hx2.lt (by omega)
          have cv6 := (t6.cell (p := ⟨bo, oo + j, none⟩) hbo5).trans cv5
          have O6 := Lib.hid (O5.out.below t6)
          have bel6 : Below w4.heap.size w4 w6 := bel5.trans (t6.mono sz5)
          have sz6 := bel6.size
          clear cv5
          by_cases hxv : x2 = v
          · subst hxv
            have hq1 : (x2 != x2) = false := by simp
            have CN : Hid (chgN (vs.take (j + 1)) (xs ++ [x2]) = cn) := by show _ = _; rw [chgN_snoc hv.out HOW.out.len, if_pos rfl, HCN.out]; rfl
            go_wp2_with (at_builtin; refine app_int w6 rfl _ _ rfl w4.heap.size A' j c' xs rfl O6.out x2 (by omega) (by omega) rfl (by omega) sz6 ?_; intro A7 c7 w7 p1 p2; have HO7 := Lib.hid p1; have bel7 := bel_app bel6 O6.out.1 p2 sz6; clear p1 p2)
            go_roundw
            case rel => exact ⟨j + 1, A7, c7, xs ++ [x2], cn, by omega, by go_num, rfl, by omega, rfl, HO7.out, mem_snoc HX.out (inR_true.2 (by omega)), CN.out.symm, bel7⟩
            case measure => simp [intOf]; omega
          · skip
            have hq1 : (x2 != v) = true := by simp [hxv]
            have CN : Hid (chgN (vs.take (j + 1)) (xs ++ [x2]) = cn + 1) := by show _ = _; rw [chgN_snoc hv.out HOW.out.len, if_neg (fun e => hxv e.symm), HCN.out]
            go_wp2_with (at_builtin; refine app_int w6 rfl _ _ rfl w4.heap.size A' j c' xs rfl O6.out x2 (by omega) (by omega) rfl (by omega) sz6 ?_; intro A7 c7 w7 p1 p2; have HO7 := Lib.hid p1; have bel7 := bel_app bel6 O6.out.1 p2 sz6; clear p1 p2)
            go_roundw
            case rel => exact ⟨j + 1, A7, c7, xs ++ [x2], cn + 1, by omega, by go_num, by go_num, by omega, rfl, HO7.out, mem_snoc HX.out (inR_true.2 (by omega)), CN.out.symm, bel7⟩
            case measure => simp [intOf]; omega
        · have hz0' : (x1 == 0) = false := by simpa using hz0
          have hq1 : (v != v) = false := by simp
          have CN : Hid (chgN (vs.take (j + 1)) (xs ++ [v]) = cn) := by show _ = _; rw [chgN_snoc hv.out HOW.out.len, if_pos rfl, HCN.out]; rfl
          go_wp2_with (at_builtin; refine app_int w5 rfl _ _ rfl w4.heap.size A' j c' xs rfl O5.out v (by omega) (by omega) rfl (by omega) sz5 ?_; intro A7 c7 w7 p1 p2; have HO7 := Lib.hid p1; have bel7 := bel_app bel5 O5.out.1 p2 sz5; clear p1 p2)
          go_roundw
          case rel => exact ⟨j + 1, A7, c7, xs ++ [v], cn, by omega, by go_num, rfl, by omega, rfl, HO7.out, mem_snoc HX.out (inR_true.2 (by omega)), CN.out.symm, bel7⟩
          case measure => simp [intOf]; omega
      · obtain rfl : j = q := by omega
        have hcn := HCN.out
        rw [List.take_of_length_le (by rw [lv.out]; omega)] at hcn
        have LX := HOW.out.len
        have hvx := VM.out xs LX HX.out
        have OI := HOW.out.ints
        have IW5 := IW4.below hbel
        have IV5 := IV4.below hbel
        obtain ⟨af, haf⟩ : ∃ x, adopt xs ws = x := ⟨_, rfl⟩
        obtain ⟨bf, hbf⟩ : ∃ x, adopt vs ws = x := ⟨_, rfl⟩
        obtain ⟨mg, hmg⟩ : ∃ x, marg vs ws = x := ⟨_, rfl⟩
        have hmc := marg_cut vs ws
        have hml := marg_le' lv.out HV.out
        have FX : af ≠ bf → 0 < mg ∧ mg ≤ (cn : Int) := fun hne => by
          have := FL.out xs (by rw [lv.out, LX]) HX.out (by rw [haf, hbf]; exact hne)
          rwa [← hcn, hmg] at this
        rw [hmg] at hmc hml
        have AB := Lib.hid (fun W0 (hh : Ints .i64 W0 V j cv vs) (kk : Ints .i64 W0 W j cw ws) => implAdoptedBy_in HV.out hbf V j cv W j cw W0 hh kk)
        have AB2 := Lib.hid (fun W0 (hh : Ints .i64 W0 A' j c' xs) (kk : Ints .i64 W0 W j cw ws) => implAdoptedBy_in hvx haf A' j c' W j cw W0 hh kk)
        have HFX := Lib.hid FX
        have HVX := Lib.hid hvx
        have HLX := Lib.hid LX
        have HMG := Lib.hid hmg
        have HBF := Lib.hid hbf
        have HAF := Lib.hid haf
        clear hcn haf FX LX hvx hbf hmg
        go_wp2_with fail
        refine (r8At_any B m d ys 20 30 _ (k.below br) (by omega) (by omega)).mono ?_
        rintro e w6 ⟨y1, rfl, hy1, t6⟩
        obtain ⟨y10, y11⟩ := hy1.lt (by omega)
        have b6 := bel_trans br t6
        obtain ⟨ld, hld⟩ : ∃ x, 2 + y1 = x := ⟨_, rfl⟩
        have bld : 2 ≤ ld ∧ ld ≤ 31 := by omega
        have FO := Lib.hid (fun W0 => fractionOf_in 1 ld W0 (by omega) (by omega) (by omega) (by omega))
        rw [(red_unit (d := ld) (by omega)).1, (red_unit (d := ld) (by omega)).2] at FO
        have OKL : Hid (okF 1 ld = true) := okF_unit (by omega) (by omega)
        go_wp2_with fail
        clear hld
        refine (FO.out _).mono ?_
        rintro e w7 ⟨rfl, t7⟩
        have b7 := bel_trans b6 t7
        have u8 := bel_alloc w7 (.cells [.int .i64 1, .int .i64 ld].toArray 52)
        have F8 := Cs.new w7 [.int .i64 1, .int .i64 ld] 52
        have b8 := bel_trans b7 u8
        have OI8 := ((OI.below t6).below t7).below u8
        have IV8 := ((IV5.below t6).below t7).below u8
        have IW8 := ((IW5.below t6).below t7).below u8
        go_wp2_with fail
        refine (r8At_any B m d ys 21 200 _ (k.below b8) (by omega) (by omega)).mono ?_
        rintro e w9 ⟨y2, rfl, hy2, t9⟩
        obtain ⟨y20, y21⟩ := hy2.lt (by omega)
        have b9 := bel_trans b8 t9
        have F9 := F8.below t9
        go_wp2_with fail
        refine (r8At_any B m d ys 22 200 _ (k.below b9) (by omega) (by omega)).mono ?_
        rintro e w10 ⟨y3, rfl, hy3, t10⟩
        obtain ⟨y30, y31⟩ := hy3.lt (by omega)
        have b10 := bel_trans b9 t10
        have F10 := F9.below t10
        have OI10 := (OI8.below t9).below t10
        have IV10 := (IV8.below t9).below t10
        have IW10 := (IW8.below t9).below t10
        obtain ⟨key, hkey⟩ : ∃ x, 1000 * y2 + y3 = x := ⟨_, rfl⟩
        have bkey : 0 ≤ key ∧ key ≤ 199199 := by omega
        obtain ⟨s, hsj, R1, R2, RC⟩ := aud_facts (key := key) (ld := ld) (cn := cn) lv.out HLX.out q8 HV.out HVX.out (by omega) (by omega) (by omega) (by omega) (by rw [HAF.out, HBF.out, HMG.out]; exact HFX.out) hcj
        rw [HBF.out] at R1 R2 RC
        rw [HAF.out] at R2 RC
        obtain ⟨L, hL⟩ : ∃ x, auditL key (j : Int) = x := ⟨_, rfl⟩
        have LL : L.length = j := by rw [← hL, auditL_length]; simp
        have LM : ∀ z ∈ L, 0 ≤ z ∧ z < (j : Int) := by rw [← hL]; exact auditL_mem (by omega) bkey.1
        have LH : ∀ i : Nat, i < j → (i : Int) ∈ L := fun i hi => by rw [← hL]; exact auditL_has bkey.1 hi
        have auB : auditB key (j : Int) = true := audit_in (inR_true.2 ⟨bkey.1, by omega⟩) (inR_true.2 ⟨by omega, by omega⟩)
        have auV : auditV key (j : Int) = L := (audit_yes auB).trans hL
        have RA1 := Lib.hid (fun W0 (hh : Ints .i64 W0 V j cv vs) (kk : Ints .i64 W0 W j cw ws) => implRunAudit_any V j cv vs V j cv vs W j cw ws key 1 ld W0 hh hh kk)
        have RA2 := Lib.hid (fun W0 (hh : Ints .i64 W0 V j cv vs) (oo : Ints .i64 W0 A' j c' xs) (kk : Ints .i64 W0 W j cw ws) => implRunAudit_any V j cv vs A' j c' xs W j cw ws key 1 ld W0 hh oo kk)
        have AO := Lib.hid (fun W0 => implAuditOrder_any key (j : Int) W0)
        rw [auV, auB] at AO
        rw [R1] at RA1
        rw [R2, hL] at RA2
        rw [show auVal ((s : Int), bf, true) = .tuple #[.int .i64 (s : Int), .bool bf, .bool true] from rfl] at RA1
        have HRC := Lib.hid RC
        have HLL := Lib.hid LL
        have HLM := Lib.hid LM
        have HLH := Lib.hid LH
        have qb : (bf == bf) = true := by simp
        have q0a := F10.cell 0 rfl
        have q1a := F10.cell 1 rfl
        have lta := F10.1
        clear R1 R2 RC hL LL LM LH auB auV
        go_wp2_with fail
        clear hkey
        refine (RA1.out _ IV10 IW10).mono ?_
        rintro e w11 ⟨rfl, t11⟩
        have b11 := bel_trans b10 t11
        go_wp2_with fail
        refine (AB.out _ (IV10.below t11) (IW10.below t11)).mono ?_
        rintro e w12 ⟨rfl, t12⟩
        have b12 := bel_trans b11 t12
        go_wp2_with fail
        refine (AB2.out _ ((OI10.below t11).below t12) ((IW10.below t11).below t12)).mono ?_
        rintro e w13 ⟨rfl, t13⟩
        have b13 := bel_trans b12 t13
        go_wp2_with fail
        refine (AO.out _).mono ?_
        rintro e w14 ⟨LA, lc, rfl, oL, t14⟩
        have b14 := bel_trans b13 t14
        have F14 := (((F10.below t11).below t12).below t13).below t14
        have OI14 := (((OI10.below t11).below t12).below t13).below t14
        have IV14 := (((IV10.below t11).below t12).below t13).below t14
        have IW14 := (((IW10.below t11).below t12).below t13).below t14
        have IL := oL.ints
        rw [HLL.out] at IL ⊢
        have q0b := F14.cell 0 rfl
        have q1b := F14.cell 1 rfl
        have ltb := F14.1
        clear q0a q1a lta oL
        go_wp2_with fail
        refine (r8Ranks_yes LA j lc L _ IL HLH.out).mono ?_
        rintro e w15 ⟨rfl, rfl⟩
        by_cases haf : af = bf
        · subst haf
          go_wp2_with fail
          go_loopw [28, 29] (fun t i wr => ∃ x : Nat, x ≤ s ∧ i = .int .i64 x ∧ t = .bool ((L.take x).any (badB vs xs)) ∧ ∃ nq, wr = w14.drewN nq) (fun _ i _ => s - (intOf i).toNat)
          case atStart => exact ⟨0, Nat.zero_le _, rfl, rfl, 0, rfl⟩
          case round =>
            obtain ⟨x, hx, rfl, rfl, nq, rfl⟩ := hrel
            obtain ⟨sb, hsb⟩ : ∃ y, (L.take x).any (badB vs xs) = y := ⟨_, rfl⟩
            have HSB := Lib.hid hsb
            rw [hsb]
            clear hsb
            by_cases hlt : x < s
            · obtain ⟨bo, oo, z, rfl, hbo, co, z1, z2, hz⟩ := (IL).at (j := x) (by omega)
              have bz := HLM.out z (mem_of_at hz.out)
              obtain ⟨z, rfl⟩ := Int.eq_ofNat_of_zero_le bz.1
              obtain ⟨br', or', u, rfl, hbr, cr, u1, u2, hu⟩ := (IV14).at (j := z) (by omega)
              obtain ⟨ba, oa, v, rfl, hba, ca, v1, v2, hv⟩ := (OI14).at (j := z) (by omega)
              have BB : badB vs xs z = (u != v) := by
                unfold badB
                simp [List.getD_eq_getElem?_getD, hu.out, hv.out]
              have NX : Hid ((L.take (x + 1)).any (badB vs xs) = (sb || (u != v))) := by
                show _ = _
                rw [take_snoc' hz.out, List.any_append, HSB.out]
                simp [BB]
              clear BB
              cases sb
              · by_cases huv : u = v
                · have hq : (u != v) = false := by simp [huv]
                  have NX2 : Hid ((L.take (x + 1)).any (badB vs xs) = false) := by show _ = _; rw [NX.out, hq]; rfl
                  clear huv
                  go_wp2_with fail
                  go_quiet (fail)
                  go_wp2_with fail
                  go_roundw
                  case rel => exact ⟨x + 1, by omega, by go_num, by rw [NX2.out], _, rfl⟩
                  case measure => simp [intOf]; omega
                · have hq : (u != v) = true := by simp [huv]
                  have NX2 : Hid ((L.take (x + 1)).any (badB vs xs) = true) := by show _ = _; rw [NX.out, hq]; rfl
                  clear huv
                  go_wp2_with fail
                  go_quiet (fail)
                  go_wp2_with fail
                  go_roundw
                  case rel => exact ⟨x + 1, by omega, by go_num, by rw [NX2.out], _, rfl⟩
                  case measure => simp [intOf]; omega
              · have NX2 : Hid ((L.take (x + 1)).any (badB vs xs) = true) := by show _ = _; rw [NX.out]; rfl
                go_wp2_with fail
                go_quiet (fail)
                go_wp2_with fail
                go_roundw
                case rel => exact ⟨x + 1, by omega, by go_num, by rw [NX2.out], _, rfl⟩
                case measure => simp [intOf]; omega
            · obtain rfl : x = s := by omega
              have b0 := below_drewN b14 nq
              have jn := below_drewN (Below.refl w14.heap.size w14) nq
              have RA3 := Lib.hid (RA2.out (w14.drewN nq) ((IV14).below jn) ((OI14).below jn) ((IW14).below jn))
              rw [HSB.out] at RA3
              cases sb
              · have RA4 := Lib.hid (show Calls Try.prog 38 _ (w14.drewN nq) fun e w' => e = .returned (.tuple #[.int .i64 (x : Int), .bool af, .bool true]) ∧ Below _ (w14.drewN nq) w' from RA3.out)
                clear RA3
                go_wp2_with fail
                refine RA4.out.mono ?_
                rintro e w30 ⟨rfl, t30⟩
                have b30 := bel_trans b0 t30
                go_wp2_with fail
                go_ret
                exact ⟨rfl, b30⟩
              · have RA4 := Lib.hid (show Calls Try.prog 38 _ (w14.drewN nq) fun e w' => e = .returned (.tuple #[.int .i64 (j : Int), .bool af, .bool true]) ∧ Below _ (w14.drewN nq) w' from RA3.out)
                have qa : (af == af) = true := by simp
                clear RA3
                go_wp2_with fail
                refine RA4.out.mono ?_
                rintro e w30 ⟨rfl, t30⟩
                have b30 := bel_trans b0 t30
                go_wp2_with fail
                go_ret
                exact ⟨rfl, b30⟩
        · have q1 : (af != bf) = true := by simpa using haf
          have q2 : (af == bf) = false := by simpa using haf
          have hcm := HRC.out haf
          have RO := Lib.hid (fun W0 => implRiskOf_in (j : Int) (cn : Int) (s : Int) W0 (by omega) (by omega) (by omega) (by omega) (by omega) (by omega))
          have RK := risk_ok (b := (j : Int)) (x := (cn : Int)) (s := (s : Int)) (by omega) (by omega) (by omega) (by omega) (by omega) (by omega)
          obtain ⟨rn, hrn⟩ : ∃ x, riskN (j : Int) (cn : Int) (s : Int) = x := ⟨_, rfl⟩
          obtain ⟨rd, hrd⟩ : ∃ x, riskD (j : Int) (cn : Int) (s : Int) = x := ⟨_, rfl⟩
          rw [hrn, hrd] at RO RK hcm
          have CF := Lib.hid (fun W0 => compareFractions_in rn rd 1 ld W0 RK OKL.out)
          obtain ⟨cm, hcm2⟩ : ∃ x, cmpF rn rd 1 ld = x := ⟨_, rfl⟩
          rw [hcm2] at CF hcm
          clear hrn hrd RK hcm2 haf
          go_wp2_with fail
          refine (RO.out _).mono ?_
          rintro e w16 ⟨rfl, t16⟩
          have u17 := bel_alloc w16 (.cells [.int .i64 rn, .int .i64 rd].toArray 52)
          have G17 := Cs.new w16 [.int .i64 rn, .int .i64 rd] 52
          have F16 := F14.below t16
          have F17 := F16.below u17
          have q0c := F16.cell 0 rfl
          have q1c := F16.cell 1 rfl
          have ltc := F16.1
          clear q0b q1b ltb
          go_wp2_with fail
          refine (CF.out _).mono ?_
          rintro e w18 ⟨rfl, t18⟩
          have b18 := bel_trans (bel_trans (bel_trans b14 t16) u17) t18
          have F18 := F17.below t18
          have OI18 := ((OI14.below t16).below u17).below t18
          have IV18 := ((IV14.below t16).below u17).below t18
          have IW18 := ((IW14.below t16).below u17).below t18
          have IL18 := ((IL.below t16).below u17).below t18
          have q0d := F18.cell 0 rfl
          have q1d := F18.cell 1 rfl
          have ltd := F18.1
          clear q0c q1c ltc
          go_wp2_with fail
          go_loopw [28, 29] (fun t i wr => ∃ x : Nat, x ≤ s ∧ i = .int .i64 x ∧ t = .bool ((L.take x).any (badB vs xs)) ∧ ∃ nq, wr = w18.drewN nq) (fun _ i _ => s - (intOf i).toNat)
          case atStart => exact ⟨0, Nat.zero_le _, rfl, rfl, 0, rfl⟩
          case round =>
            obtain ⟨x, hx, rfl, rfl, nq, rfl⟩ := hrel
            obtain ⟨sb, hsb⟩ : ∃ y, (L.take x).any (badB vs xs) = y := ⟨_, rfl⟩
            have HSB := Lib.hid hsb
            rw [hsb]
            clear hsb
            by_cases hlt : x < s
            · obtain ⟨bo, oo, z, rfl, hbo, co, z1, z2, hz⟩ := (IL18).at (j := x) (by omega)
              have bz := HLM.out z (mem_of_at hz.out)
              obtain ⟨z, rfl⟩ := Int.eq_ofNat_of_zero_le bz.1
              obtain ⟨br', or', u, rfl, hbr, cr, u1, u2, hu⟩ := (IV18).at (j := z) (by omega)
              obtain ⟨ba, oa, v, rfl, hba, ca, v1, v2, hv⟩ := (OI18).at (j := z) (by omega)
              have BB : badB vs xs z = (u != v) := by
                unfold badB
                simp [List.getD_eq_getElem?_getD, hu.out, hv.out]
              have NX : Hid ((L.take (x + 1)).any (badB vs xs) = (sb || (u != v))) := by
                show _ = _
                rw [take_snoc' hz.out, List.any_append, HSB.out]
                simp [BB]
              clear BB
              cases sb
              · by_cases huv : u = v
                · have hq : (u != v) = false := by simp [huv]
                  have NX2 : Hid ((L.take (x + 1)).any (badB vs xs) = false) := by show _ = _; rw [NX.out, hq]; rfl
                  clear huv
                  go_wp2_with fail
                  go_quiet (fail)
                  go_wp2_with fail
                  go_roundw
                  case rel => exact ⟨x + 1, by omega, by go_num, by rw [NX2.out], _, rfl⟩
                  case measure => simp [intOf]; omega
                · have hq : (u != v) = true := by simp [huv]
                  have NX2 : Hid ((L.take (x + 1)).any (badB vs xs) = true) := by show _ = _; rw [NX.out, hq]; rfl
                  clear huv
                  go_wp2_with fail
                  go_quiet (fail)
                  go_wp2_with fail
                  go_roundw
                  case rel => exact ⟨x + 1, by omega, by go_num, by rw [NX2.out], _, rfl⟩
                  case measure => simp [intOf]; omega
              · have NX2 : Hid ((L.take (x + 1)).any (badB vs xs) = true) := by show _ = _; rw [NX.out]; rfl
                go_wp2_with fail
                go_quiet (fail)
                go_wp2_with fail
                go_roundw
                case rel => exact ⟨x + 1, by omega, by go_num, by rw [NX2.out], _, rfl⟩
                case measure => simp [intOf]; omega
            · obtain rfl : x = s := by omega
              have b0 := below_drewN b18 nq
              have jn := below_drewN (Below.refl w18.heap.size w18) nq
              have RA3 := Lib.hid (RA2.out (w18.drewN nq) ((IV18).below jn) ((OI18).below jn) ((IW18).below jn))
              rw [HSB.out] at RA3
              cases sb
              · have RA4 := Lib.hid (show Calls Try.prog 38 _ (w18.drewN nq) fun e w' => e = .returned (.tuple #[.int .i64 (x : Int), .bool bf, .bool true]) ∧ Below _ (w18.drewN nq) w' from RA3.out)
                clear RA3
                go_wp2_with fail
                refine RA4.out.mono ?_
                rintro e w30 ⟨rfl, t30⟩
                have b30 := bel_trans b0 t30
                go_wp2_with fail
                go_ret
                exact ⟨rfl, b30⟩
              · have RA4 := Lib.hid (show Calls Try.prog 38 _ (w18.drewN nq) fun e w' => e = .returned (.tuple #[.int .i64 (j : Int), .bool af, .bool true]) ∧ Below _ (w18.drewN nq) w' from RA3.out)
                have qa : (af == af) = true := by simp
                clear RA3
                go_wp2_with fail
                refine RA4.out.mono ?_
                rintro e w30 ⟨rfl, t30⟩
                have b30 := bel_trans b0 t30
                go_wp2_with fail
                go_ret
                exact ⟨rfl, b30⟩
end Go.Proofs.Ytfanjnoaifhnnaa
