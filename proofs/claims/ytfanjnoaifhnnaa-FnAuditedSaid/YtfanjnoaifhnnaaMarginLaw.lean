/- The law FnMargin: the walk. -/
import Derived.Test.YtfanjnoaifhnnaaChanged
namespace Go.Proofs.Ytfanjnoaifhnnaa
set_option linter.unusedVariables false
open Go.RowKit
theorem chgN_snoc {vs xs : List Int} {j : Nat} {v x : Int} (hv : vs[j]? = some v) (hx : xs.length = j) : chgN (vs.take (j + 1)) (xs ++ [x]) = chgN (vs.take j) xs + if v = x then 0 else 1 := by
  have hj := (List.getElem?_eq_some_iff.1 hv).1
  have e : (vs.take j ++ [v]).zip (xs ++ [x]) = (vs.take j).zip xs ++ [(v, x)] := by
    rw [List.zip_append (by rw [List.length_take]; omega)]; rfl
  unfold chgN
  rw [take_snoc' hv, e, List.filter_append, List.length_append]
  congr 1
  by_cases h : v = x
  · simp [h]
  · simp [h]
theorem few_votes {n : Nat} {vs ws : List Int} (h : FewVotes n vs ws) : votesB vs ws = true :=
  votesB_mk h.lv h.lw (by have := h.n8; omega) (fun z hz => inR_true.2 (h.hv z hz)) (fun z hz => inR_true.2 (by have := h.hw z hz; omega))
theorem implAdoptedBy_in {vs ws : List Int} {r : Bool} (hv : votesB vs ws = true) (hr : adopt vs ws = r) (A : Option Addr) (n c : Nat) (B : Option Addr) (m d : Nat) (w : World) (h : Ints .i64 w A n c vs) (k : Ints .i64 w B m d ws) :
    Calls Try.prog 16 #[.slice A n c, .slice B m d] w fun e w' => e = .returned (.tuple #[.bool r, .bool true]) ∧ Below w.heap.size w w' := by
  have := implAdoptedBy_any A n c vs B m d ws w h k
  rwa [adoptV_yes hv, hv, hr] at this
set_option maxRecDepth 100000 in
set_option maxHeartbeats 4000000 in
theorem fnMargin_walk (w : World) (A : Option Addr) (n c : Nat) (zs : List Int) (h : Ints .u8 w A n c zs) (B : Option Addr) (m d : Nat) (ys : List Int) (k : Ints .u8 w B m d ys) :
    Calls Try.prog 4 #[.slice A n c, .slice B m d] w fun e w' => e = .returned (.bool true) ∧ Below w.heap.size w w' := by
  have hn := h.short
  have hm := k.short
  by_cases h1 : (decide ((48 : Int) < n) || decide ((48 : Int) < m)) = true
  · have H1 := Lib.hid h1
    clear h1
    go_enter Try.func4, Try.ntmps4
    go_wp2_with fail
    refine (r8Long_any A n c B m d _ hn hm).mono ?_
    rintro e w1 ⟨rfl, rfl⟩
    rw [H1.out]
    go_wp2_with fail
    go_ret
    exact ⟨rfl, Below.refl _ _⟩
  · have H1 : Hid ((decide ((48 : Int) < n) || decide ((48 : Int) < m)) = false) := by show _ = _; simpa using h1
    clear h1
    go_enter Try.func4, Try.ntmps4
    go_wp2_with fail
    refine (r8Long_any A n c B m d _ hn hm).mono ?_
    rintro e w1 ⟨rfl, rfl⟩
    rw [H1.out]
    go_wp2_with fail
    refine (R8Votes_any A n c zs _ h).mono ?_
    rintro e w1 ⟨q, V, cv, W, cw, vs, ws, rfl, hf, oV, oW, b1⟩
    have hv := few_votes hf
    have HF := Lib.hid hf
    have HV := Lib.hid hv
    have IV := oV.ints
    have IW := oW.ints
    have lv := Lib.hid hf.lv
    have lw := Lib.hid hf.lw
    have q8 := hf.n8
    have hmc := marg_cut vs ws
    have hml := marg_le' hf.lv hv
    obtain ⟨mg, hmg⟩ : ∃ x, marg vs ws = x := ⟨_, rfl⟩
    obtain ⟨bf, hbf⟩ : ∃ x, adopt vs ws = x := ⟨_, rfl⟩
    have HM := Lib.hid hmg
    have HB := Lib.hid hbf
    rw [hmg] at hmc hml
    have AB := Lib.hid (fun W0 (hh : Ints .i64 W0 V q cv vs) (kk : Ints .i64 W0 W q cw ws) => implAdoptedBy_in hv hbf V q cv W q cw W0 hh kk)
    have MO := Lib.hid (fun W0 (hh : Ints .i64 W0 V q cv vs) (kk : Ints .i64 W0 W q cw ws) => implMarginOf_any V q cv vs W q cw ws W0 hh kk)
    have CH := Lib.hid (fun W0 (hh : Ints .i64 W0 V q cv vs) (kk : Ints .i64 W0 W q cw ws) => R8Changed_any V q cv vs W cw ws W0 hh kk hv)
    have FL := Lib.hid (fun (xs : List Int) (h1 : vs.length = xs.length) (hx : ∀ z ∈ xs, voteB z = true) (hne : adopt xs ws ≠ adopt vs ws) => flip_needs (vs := vs) (ws := ws) h1 (by rw [hf.lv, hf.lw]) (fun z hz => inR_true.2 (hf.hv z hz)) hx (fun z hz => (hf.hw z hz).1) hne)
    unfold GivesChg at CH
    rw [hmg, hbf] at CH FL
    have VM := Lib.hid (fun (xs : List Int) (h1 : xs.length = q) (hx : ∀ z ∈ xs, voteB z = true) => votesB_mk h1 hf.lw (by omega) hx (fun z hz => inR_true.2 (by have := hf.hw z hz; omega)))
    clear hf hv oV oW
    by_cases hpos : 0 < mg
    · obtain ⟨e1, e2⟩ := marg_yes HV.out hmg hpos
      rw [e1, e2] at MO
      rw [show decide (0 < mg) = true by simp [hpos]] at CH
      clear hmg hbf e1 e2
      have tt : (true != true) = false := rfl
      go_wp2_with fail
      refine (AB.out _ IV IW).mono ?_
      rintro e w2 ⟨rfl, t2⟩
      have b2 := bel_trans b1 t2
      have IV2 := IV.below t2
      have IW2 := IW.below t2
      go_wp2_with fail
      refine (MO.out _ IV2 IW2).mono ?_
      rintro e w3 ⟨rfl, t3⟩
      have b3 := bel_trans b2 t3
      have IV3 := IV2.below t3
      have IW3 := IW2.below t3
      go_wp2_with fail
      refine (CH.out _ IV3 IW3).mono ?_
      rintro e w4 ⟨C4, c4, m4, out, rfl, IO4, hO, t4⟩
      have b4 := bel_trans b3 t4
      have IV4 := IV3.below t4
      have IW4 := IW3.below t4
      have HO := Lib.hid hO
      clear hO IV IW IV2 IW2 IV3 IW3
      have s4 := b4.size
      go_wp2_with fail
      go_loopw [13, 14, 15] (fun t u i wr => ∃ (j : Nat) (A' : Option Addr) (c' : Nat) (xs : List Int) (cn : Nat), j ≤ q ∧ i = .int .i64 j ∧ u = .int .i64 cn ∧ cn ≤ j ∧ t = .slice A' j c' ∧ OwnI wr w4.heap.size A' j c' xs ∧ (∀ z ∈ xs, voteB z = true) ∧ cn = chgN (vs.take j) xs ∧ Below w4.heap.size w4 wr) (fun _ _ i _ => q - (intOf i).toNat)
      case atStart => exact ⟨0, _, _, [], 0, Nat.zero_le _, rfl, rfl, Nat.le_refl _, rfl, ownI_lit _, by simp, by simp [chgN], bel_alloc _ _⟩
      case round =>
        obtain ⟨j, A', c', xs, cn, hj, rfl, rfl, hcj, rfl, ho, hx, hcn, hbel⟩ := hrel
        have HOW := Lib.hid ho
        have HX := Lib.hid hx
        have HCN := Lib.hid hcn
        have br := b4.trans (hbel.mono s4)
        clear ho hx hcn
        by_cases hlt : j < q
        · obtain ⟨bo, oo, v, rfl, hbo, cv', v1, v2, hv⟩ := (IV4.below hbel).at hlt
          have bv := HF.out.hv v (mem_of_at hv.out)
          go_wp2_with fail
          refine (r8At_any B m d ys (j : Int) 3 _ (k.below br) (by omega) (by omega)).mono ?_
          rintro e w5 ⟨x1, rfl, hx1, t5⟩
          obtain ⟨x10, x11⟩ := hx1.lt (by omega)
          have cv5 := (t5.cell (p := ⟨bo, oo + j, none⟩) hbo).trans cv'
          have hbo5 := Nat.lt_of_lt_of_le hbo t5.size
          have br5 := bel_trans br t5
          have O5 := Lib.hid (HOW.out.below t5)
          have bel5 : Below w4.heap.size w4 w5 := hbel.trans (t5.mono hbel.size)
          have sz5 := bel5.size
          clear cv' hbo
          by_cases hz0 : x1 = 0
          · have hz0' : (x1 == 0) = true := by simp [hz0]
            go_wp2_with fail
            refine (r8At_any B m d ys ((j : Int) + 9) 3 _ (k.below br5) (by omega) (by omega)).mono ?_
            rintro e w6 ⟨x2, rfl, hx2, t6⟩
            obtain ⟨x20, x21⟩ := hx2.lt (by omega)
            have cv6 := (t6.cell (p := ⟨bo, oo + j, none⟩) hbo5).trans cv5
            have O6 := Lib.hid (O5.out.below t6)
            have bel6 : Below w4.heap.size w4 w6 := bel5.trans (t6.mono sz5)
            have sz6 := bel6.size
            clear cv5
            by_cases hxv : x2 = v
            · subst hxv
              have hq1 : (x2 != x2) = false := by simp
              have CN : Hid (chgN (vs.take (j + 1)) (xs ++ [x2]) = cn) := by show _ = _; rw [chgN_snoc hv.out HOW.out.len, if_pos rfl, HCN.out]; rfl
              go_wp2_with (at_builtin; refine app_int w6 rfl _ _ rfl w4.heap.size A' j c' xs rfl O6.out x2 (by omega) (by omega) rfl (by omega) sz6 ?_; intro A7 c7 w7 p1 p2; have HO7 := Lib.hid p1; have bel7 := bel_app bel6 O6.out.1 p2 sz6; clear p1 p2)
              go_roundw
              case rel => exact ⟨j + 1, A7, c7, xs ++ [x2], cn, by omega, by go_num, rfl, by omega, rfl, HO7.out, mem_snoc HX.out (inR_true.2 (by omega)), CN.out.symm, bel7⟩
              case measure => simp [intOf]; omega
            · skip
              have hq1 : (x2 != v) = true := by simp [hxv]
              have CN : Hid (chgN (vs.take (j + 1)) (xs ++ [x2]) = cn + 1) := by show _ = _; rw [chgN_snoc hv.out HOW.out.len, if_neg (fun e => hxv e.symm), HCN.out]
              go_wp2_with (at_builtin; refine app_int w6 rfl _ _ rfl w4.heap.size A' j c' xs rfl O6.out x2 (by omega) (by omega) rfl (by omega) sz6 ?_; intro A7 c7 w7 p1 p2; have HO7 := Lib.hid p1; have bel7 := bel_app bel6 O6.out.1 p2 sz6; clear p1 p2)
              go_roundw
              case rel => exact ⟨j + 1, A7, c7, xs ++ [x2], cn + 1, by omega, by go_num, by go_num, by omega, rfl, HO7.out, mem_snoc HX.out (inR_true.2 (by omega)), CN.out.symm, bel7⟩
              case measure => simp [intOf]; omega
          · have hz0' : (x1 == 0) = false := by simpa using hz0
            have hq1 : (v != v) = false := by simp
            have CN : Hid (chgN (vs.take (j + 1)) (xs ++ [v]) = cn) := by show _ = _; rw [chgN_snoc hv.out HOW.out.len, if_pos rfl, HCN.out]; rfl
            go_wp2_with (at_builtin; refine app_int w5 rfl _ _ rfl w4.heap.size A' j c' xs rfl O5.out v (by omega) (by omega) rfl (by omega) sz5 ?_; intro A7 c7 w7 p1 p2; have HO7 := Lib.hid p1; have bel7 := bel_app bel5 O5.out.1 p2 sz5; clear p1 p2)
            go_roundw
            case rel => exact ⟨j + 1, A7, c7, xs ++ [v], cn, by omega, by go_num, rfl, by omega, rfl, HO7.out, mem_snoc HX.out (inR_true.2 (by omega)), CN.out.symm, bel7⟩
            case measure => simp [intOf]; omega
        · obtain rfl : j = q := by omega
          have hcn := HCN.out
          rw [List.take_of_length_le (by rw [lv.out]; omega)] at hcn
          obtain ⟨af, haf⟩ : ∃ x, adopt xs ws = x := ⟨_, rfl⟩
          have LX := HOW.out.len
          have AB2 := Lib.hid (fun W0 (hh : Ints .i64 W0 A' j c' xs) (kk : Ints .i64 W0 W j cw ws) => implAdoptedBy_in (VM.out xs LX HX.out) haf A' j c' W j cw W0 hh kk)
          have FX : af ≠ bf → 0 < mg ∧ mg ≤ (cn : Int) := fun hne => by
            have := FL.out xs (by rw [lv.out, LX]) HX.out (by rw [haf]; exact hne)
            rwa [← hcn] at this
          have OI := HOW.out.ints
          have IW5 := IW4.below hbel
          have IO5 := IO4.below hbel
          have HFX := Lib.hid FX
          clear hcn haf FX LX
          go_wp2_with fail
          refine (AB2.out _ OI IW5).mono ?_
          rintro e w6 ⟨rfl, t6⟩
          have b6 := bel_trans br t6
          have IW6 := IW5.below t6
          have IO6 := IO5.below t6
          obtain ⟨hm4, hov, hne⟩ := HO.out hpos
          subst hm4
          obtain ⟨of, hof⟩ : ∃ x, adopt out ws = x := ⟨_, rfl⟩
          rw [hof] at hne
          have HNE := Lib.hid hne
          have LO := IO6.1
          have AB3 := Lib.hid (fun W0 (hh : Ints .i64 W0 C4 m4 c4 out) (kk : Ints .i64 W0 W m4 cw ws) => implAdoptedBy_in (VM.out out LO hov) hof C4 m4 c4 W m4 cw W0 hh kk)
          clear hov hof hne LO
          by_cases haf : af = bf
          · subst haf
            have q1 : (af != af) = false := by simp
            clear HFX
            go_wp2_with fail
            refine (AB3.out _ IO6 IW6).mono ?_
            rintro e w7 ⟨rfl, t7⟩
            have b7 := bel_trans b6 t7
            go_wp2_with fail
            go_ret
            exact ⟨ret_bool (by have := HNE.out; revert this; cases of <;> cases af <;> simp), b7⟩
          · have q1 : (af != bf) = true := by simpa using haf
            have q3 := (HFX.out haf).2
            have q4 : (af == bf) = false := by simpa using haf
            have q5 : decide ((cn : Int) < mg) = false := by simpa using q3
            clear HFX haf
            go_wp2_with fail
            refine (AB3.out _ IO6 IW6).mono ?_
            rintro e w7 ⟨rfl, t7⟩
            have b7 := bel_trans b6 t7
            go_wp2_with fail
            go_ret
            exact ⟨ret_bool (by have := HNE.out; revert this; cases of <;> cases bf <;> simp), b7⟩
    · obtain ⟨e1, e2⟩ := marg_none HV.out (hmg.trans (by omega))
      rw [e1, e2] at MO
      rw [show decide (0 < mg) = false by simp; omega] at CH
      clear hmg hbf e1 e2
      have tt : (false != false) = false := rfl
      go_wp2_with fail
      refine (AB.out _ IV IW).mono ?_
      rintro e w2 ⟨rfl, t2⟩
      have b2 := bel_trans b1 t2
      have IV2 := IV.below t2
      have IW2 := IW.below t2
      go_wp2_with fail
      refine (MO.out _ IV2 IW2).mono ?_
      rintro e w3 ⟨rfl, t3⟩
      have b3 := bel_trans b2 t3
      have IV3 := IV2.below t3
      have IW3 := IW2.below t3
      go_wp2_with fail
      refine (CH.out _ IV3 IW3).mono ?_
      rintro e w4 ⟨C4, c4, m4, out, rfl, IO4, hO, t4⟩
      have b4 := bel_trans b3 t4
      have IV4 := IV3.below t4
      have IW4 := IW3.below t4
      have HO := Lib.hid hO
      clear hO IV IW IV2 IW2 IV3 IW3
      have s4 := b4.size
      go_wp2_with fail
      go_loopw [13, 14, 15] (fun t u i wr => ∃ (j : Nat) (A' : Option Addr) (c' : Nat) (xs : List Int) (cn : Nat), j ≤ q ∧ i = .int .i64 j ∧ u = .int .i64 cn ∧ cn ≤ j ∧ t = .slice A' j c' ∧ OwnI wr w4.heap.size A' j c' xs ∧ (∀ z ∈ xs, voteB z = true) ∧ cn = chgN (vs.take j) xs ∧ Below w4.heap.size w4 wr) (fun _ _ i _ => q - (intOf i).toNat)
      case atStart => exact ⟨0, _, _, [], 0, Nat.zero_le _, rfl, rfl, Nat.le_refl _, rfl, ownI_lit _, by simp, by simp [chgN], bel_alloc _ _⟩
      case round =>
        obtain ⟨j, A', c', xs, cn, hj, rfl, rfl, hcj, rfl, ho, hx, hcn, hbel⟩ := hrel
        have HOW := Lib.hid ho
        have HX := Lib.hid hx
        have HCN := Lib.hid hcn
        have br := b4.trans (hbel.mono s4)
        clear ho hx hcn
        by_cases hlt : j < q
        · obtain ⟨bo, oo, v, rfl, hbo, cv', v1, v2, hv⟩ := (IV4.below hbel).at hlt
          have bv := HF.out.hv v (mem_of_at hv.out)
          go_wp2_with fail
          refine (r8At_any B m d ys (j : Int) 3 _ (k.below br) (by omega) (by omega)).mono ?_
          rintro e w5 ⟨x1, rfl, hx1, t5⟩
          obtain ⟨x10, x11⟩ := hx1.lt (by omega)
          have cv5 := (t5.cell (p := ⟨bo, oo + j, none⟩) hbo).trans cv'
          have hbo5 := Nat.lt_of_lt_of_le hbo t5.size
          have br5 := bel_trans br t5
          have O5 := Lib.hid (HOW.out.below t5)
          have bel5 : Below w4.heap.size w4 w5 := hbel.trans (t5.mono hbel.size)
          have sz5 := bel5.size
          clear cv' hbo
          by_cases hz0 : x1 = 0
          · have hz0' : (x1 == 0) = true := by simp [hz0]
            go_wp2_with fail
            refine (r8At_any B m d ys ((j : Int) + 9) 3 _ (k.below br5) (by omega) (by omega)).mono ?_
            rintro e w6 ⟨x2, rfl, hx2, t6⟩
            obtain ⟨x20, x21⟩ := hx2.lt (by omega)
            have cv6 := (t6.cell (p := ⟨bo, oo + j, none⟩) hbo5).trans cv5
            have O6 := Lib.hid (O5.out.below t6)
            have bel6 : Below w4.heap.size w4 w6 := bel5.trans (t6.mono sz5)
            have sz6 := bel6.size
            clear cv5
            by_cases hxv : x2 = v
            · subst hxv
              have hq1 : (x2 != x2) = false := by simp
              have CN : Hid (chgN (vs.take (j + 1)) (xs ++ [x2]) = cn) := by show _ = _; rw [chgN_snoc hv.out HOW.out.len, if_pos rfl, HCN.out]; rfl
              go_wp2_with (at_builtin; refine app_int w6 rfl _ _ rfl w4.heap.size A' j c' xs rfl O6.out x2 (by omega) (by omega) rfl (by omega) sz6 ?_; intro A7 c7 w7 p1 p2; have HO7 := Lib.hid p1; have bel7 := bel_app bel6 O6.out.1 p2 sz6; clear p1 p2)
              go_roundw
              case rel => exact ⟨j + 1, A7, c7, xs ++ [x2], cn, by omega, by go_num, rfl, by omega, rfl, HO7.out, mem_snoc HX.out (inR_true.2 (by omega)), CN.out.symm, bel7⟩
              case measure => simp [intOf]; omega
            · skip
              have hq1 : (x2 != v) = true := by simp [hxv]
              have CN : Hid (chgN (vs.take (j + 1)) (xs ++ [x2]) = cn + 1) := by show _ = _; rw [chgN_snoc hv.out HOW.out.len, if_neg (fun e => hxv e.symm), HCN.out]
              go_wp2_with (at_builtin; refine app_int w6 rfl _ _ rfl w4.heap.size A' j c' xs rfl O6.out x2 (by omega) (by omega) rfl (by omega) sz6 ?_; intro A7 c7 w7 p1 p2; have HO7 := Lib.hid p1; have bel7 := bel_app bel6 O6.out.1 p2 sz6; clear p1 p2)
              go_roundw
              case rel => exact ⟨j + 1, A7, c7, xs ++ [x2], cn + 1, by omega, by go_num, by go_num, by omega, rfl, HO7.out, mem_snoc HX.out (inR_true.2 (by omega)), CN.out.symm, bel7⟩
              case measure => simp [intOf]; omega
          · have hz0' : (x1 == 0) = false := by simpa using hz0
            have hq1 : (v != v) = false := by simp
            have CN : Hid (chgN (vs.take (j + 1)) (xs ++ [v]) = cn) := by show _ = _; rw [chgN_snoc hv.out HOW.out.len, if_pos rfl, HCN.out]; rfl
            go_wp2_with (at_builtin; refine app_int w5 rfl _ _ rfl w4.heap.size A' j c' xs rfl O5.out v (by omega) (by omega) rfl (by omega) sz5 ?_; intro A7 c7 w7 p1 p2; have HO7 := Lib.hid p1; have bel7 := bel_app bel5 O5.out.1 p2 sz5; clear p1 p2)
            go_roundw
            case rel => exact ⟨j + 1, A7, c7, xs ++ [v], cn, by omega, by go_num, rfl, by omega, rfl, HO7.out, mem_snoc HX.out (inR_true.2 (by omega)), CN.out.symm, bel7⟩
            case measure => simp [intOf]; omega
        · obtain rfl : j = q := by omega
          have hcn := HCN.out
          rw [List.take_of_length_le (by rw [lv.out]; omega)] at hcn
          obtain ⟨af, haf⟩ : ∃ x, adopt xs ws = x := ⟨_, rfl⟩
          have LX := HOW.out.len
          have AB2 := Lib.hid (fun W0 (hh : Ints .i64 W0 A' j c' xs) (kk : Ints .i64 W0 W j cw ws) => implAdoptedBy_in (VM.out xs LX HX.out) haf A' j c' W j cw W0 hh kk)
          have FX : af ≠ bf → 0 < mg ∧ mg ≤ (cn : Int) := fun hne => by
            have := FL.out xs (by rw [lv.out, LX]) HX.out (by rw [haf]; exact hne)
            rwa [← hcn] at this
          have OI := HOW.out.ints
          have IW5 := IW4.below hbel
          have IO5 := IO4.below hbel
          have HFX := Lib.hid FX
          clear hcn haf FX LX
          go_wp2_with fail
          refine (AB2.out _ OI IW5).mono ?_
          rintro e w6 ⟨rfl, t6⟩
          have b6 := bel_trans br t6
          have IW6 := IW5.below t6
          have IO6 := IO5.below t6
          obtain rfl : af = bf := by
            rcases Bool.eq_false_or_eq_true (af == bf) with h | h
            · simpa using h
            · exact absurd (HFX.out (by simpa using h)).1 (by omega)
          have q1 : (af != af) = false := by simp
          clear HFX
          go_wp2_with fail
          go_ret
          exact ⟨rfl, b6⟩
end Go.Proofs.Ytfanjnoaifhnnaa
