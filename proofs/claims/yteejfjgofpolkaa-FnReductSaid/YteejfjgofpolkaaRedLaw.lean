/- The law FnReduct, walked. -/
import Derived.Test.YteejfjgofpolkaaRed
import Derived.Test.YteejfjgofpolkaaDrawSet
namespace Go.Proofs.Yteejfjgofpolkaa
set_option linter.unusedVariables false
set_option linter.unusedSimpArgs false
set_option maxRecDepth 100000
open Go.RowKit Go.Deep
/-- Where a number stands, or -1. -/
def IdxP (nm : List Nat) (x : Nat) (r : Int) : Prop := (r = -1 ∧ x ∉ nm) ∨ ∃ i : Nat, r = i ∧ nm[i]? = some x
section
variable {n : Nat} {es : List (Nat × Nat)} {E : Nat} {nm : List Nat} {k : Nat} {es' : List (Nat × Nat)}
theorem Red.up_no (h : Red n es E nm k es') {S x : Nat} (hx : x ∉ nm) : (upM n E nm S).testBit x = E.testBit x := by
  rw [Bool.eq_iff_iff, h.up_bit]
  exact ⟨fun h1 => h1.elim id fun ⟨i, hi, _⟩ => absurd (List.mem_of_getElem? hi) hx, .inl⟩
theorem Red.up_at (h : Red n es E nm k es') {S x i : Nat} (hi : nm[i]? = some x) : (upM n E nm S).testBit x = (E.testBit x || S.testBit i) := by
  rw [Bool.eq_iff_iff, h.up_nm hi, Bool.or_eq_true]
  constructor
  · exact .inr
  · rintro (h1 | h1)
    · have := ((h.mem x).1 (List.mem_of_getElem? hi)).2.1
      rw [h1] at this
      exact absurd this (by simp)
    · exact h1
theorem Red.k_le (h : Red n es E nm k es') : nm.length ≤ n := by
  have := nodup_len (m := List.range n) h.nd fun x hx => List.mem_range.2 ((h.mem x).1 hx).1
  rwa [List.length_range] at this
theorem Red.cnt (h : Red n es E nm k es') : ((srtL (bitsL (prefM n es))).filter fun z => (bitsTo E 10).all fun b => z.any (· == b)).length = (prefM k es').length := by
  rw [((srtL_perm (bitsL (prefM n es))).filter _).length_eq, ← h.count]
  unfold bitsL
  rw [List.filter_map, List.length_map]
  congr 1
  refine List.filter_congr fun m hm => ?_
  exact bits_sub (pow10 h.ok.n10 h.Elt) (allM_lt h.ok.n10 hm)
end
theorem r8Index_ok (nm : List Nat) (x : Nat) (A : Option Addr) (c : Nat) (zs : List Int) (hz : zs = nm.map fun i : Nat => (i : Int)) (w : World) (h : Ints .i64 w A nm.length c zs) :
    Calls Try.prog 52 #[.slice A nm.length c, .int .i64 x] w fun e w' => ∃ r : Int, e = .returned (.int .i64 r) ∧ IdxP nm x r ∧ w = w' := by
  have hm := h.short
  go_enter Try.func52, Try.ntmps52
  go_wp2_with fail
  go_loop [5] (fun i => ∃ k : Nat, k ≤ nm.length ∧ i = .int .i64 k ∧ Hid (x ∉ nm.take k)) (fun i => nm.length - (intOf i).toNat)
  case atStart => exact ⟨0, Nat.zero_le _, rfl, by show ¬ _; simp⟩
  case round =>
    obtain ⟨k, hk, rfl, T⟩ := hrel
    by_cases hlt : k < nm.length
    · have d0 := decide_eq_true (show (k : Int) < (nm.length : Int) by omega)
      obtain ⟨a, ha⟩ : ∃ a, nm[k]? = some a := ⟨_, List.getElem?_eq_getElem hlt⟩
      obtain ⟨b, off, rfl, ca⟩ := h.get (j := k) (z := (a : Int)) (by rw [hz, List.getElem?_map, ha]; rfl)
      have k0 : (0 : Int) ≤ (k : Int) := by omega
      have k1 : (k : Int) < (nm.length : Int) := by omega
      by_cases e : a = x
      · have q1 : ((a : Int) == (x : Int)) = true := by simp [e]
        have R := Lib.hid (show IdxP nm x k from .inr ⟨k, rfl, by rw [ha, e]⟩)
        clear e ha
        go_wp2_with fail
        go_ret
        exact ⟨k, rfl, R.out, rfl⟩
      · have q1 : ((a : Int) == (x : Int)) = false := by simp; omega
        have R := Lib.hid (show x ∉ nm.take (k + 1) from by
          rw [take_snoc' ha]
          intro h1
          rcases List.mem_append.1 h1 with h1 | h1
          · exact T.out h1
          · simp at h1; exact e h1.symm)
        clear e ha
        go_wp2_with fail
        go_round
        case rel => exact ⟨k + 1, by omega, by go_num, R.out⟩
        case measure => simp [intOf]; omega
    · have hk' : k = nm.length := by omega
      have d0 := decide_eq_false (show ¬ (k : Int) < (nm.length : Int) by omega)
      have R := Lib.hid (show IdxP nm x (-1) from .inl ⟨rfl, by have := T.out; rwa [hk', List.take_length] at this⟩)
      go_wp2_with fail
      go_ret
      exact ⟨-1, rfl, R.out, rfl⟩
set_option maxHeartbeats 16000000 in
theorem fnReduct_walk (w : World) (A : Option Addr) (n c : Nat) (zs : List Int) (h : Ints .u8 w A n c zs) (B : Option Addr) (m d : Nat) (ys : List Int) (k : Ints .u8 w B m d ys) :
    Calls Try.prog 10 #[.slice A n c, .slice B m d] w fun e w' => e = .returned (.bool true) ∧ Below w.heap.size w w' := by
  have hn := h.short
  have hm := k.short
  by_cases h1 : (decide ((48 : Int) < n) || decide ((48 : Int) < m)) = true
  · have H1 := Lib.hid h1
    clear h1
    go_enter Try.func10, Try.ntmps10
    go_wp2_with fail
    refine (r8Long_any A n c B m d _ hn hm).mono ?_
    rintro e w1 ⟨rfl, rfl⟩
    rw [H1.out]
    go_wp2_with fail
    go_ret
    exact ⟨rfl, Below.refl _ _⟩
  · have H1 : Hid ((decide ((48 : Int) < n) || decide ((48 : Int) < m)) = false) := by show _ = _; simpa using h1
    have KB := Lib.hid k
    clear h1
    go_enter Try.func10, Try.ntmps10
    go_wp2_with fail
    refine (r8Long_any A n c B m d _ hn hm).mono ?_
    rintro e w1 ⟨rfl, rfl⟩
    rw [H1.out]
    go_wp2_with fail
    refine (R8Frame_any A n c zs _ h).mono ?_
    rintro e w1 ⟨N, es, Q, dq, rfl, ok, hR, b1⟩
    have n10 := ok.n10
    have OK := Lib.hid ok
    have ba := bel_alloc w1 (.cells #[.int .i64 N, .slice Q es.length dq] 26)
    have C1 := Lib.hid (Cs.new w1 [.int .i64 N, .slice Q es.length dq] 26)
    have y0 := C1.out.cell 0 rfl
    have y1 := C1.out.cell 1 rfl
    have RR := Lib.hid (hR.below ba)
    have B1 := Lib.hid (bel_trans b1 ba)
    obtain ⟨gF, hgF⟩ : ∃ r, w1.heap.size = r := ⟨_, rfl⟩
    rw [hgF] at C1 y0 y1
    clear ok hR b1 ba
    go_wp2_with fail
    refine (compSI_ok N es OK.out (frB_of OK.out) Q es.length dq _ RR.out).mono ?_
    rintro e w2 ⟨AC, cC, vC, rfl, oC, b2⟩
    have C2 := Lib.hid (C1.out.below b2)
    have z0 := C2.out.cell 0 rfl
    have z1 := C2.out.cell 1 rfl
    have R2 := Lib.hid (RR.out.below b2)
    have B2 := Lib.hid (bel_trans B1.out b2)
    have SC2 := Lib.hid oC
    clear oC b2 y0 y1
    go_wp2_with fail
    refine (prefSI_ok N es OK.out (frB_of OK.out) Q es.length dq _ R2.out).mono ?_
    rintro e w3 ⟨AP, cP, vP, rfl, oP, b3⟩
    have C3 := Lib.hid (C2.out.below b3)
    have R3 := Lib.hid (R2.out.below b3)
    have B3 := Lib.hid (bel_trans B2.out b3)
    have SC3 := Lib.hid (SC2.out.below b3)
    have SP3 := Lib.hid oP
    have CAT := Lib.hid (fun i z (hz : (srtL (bitsL (allM N (compB N es))))[i]? = some z) => (show ∃ m, m < 2 ^ N ∧ compB N es m = true ∧ z = bitsTo m 10 from by
      obtain ⟨m, h1, h2⟩ := set_at hz
      exact ⟨m, (allM_mem.1 h1).1, (allM_mem.1 h1).2, h2⟩))
    have CNT := Lib.hid (fun E nm k es' (h : Red N es E nm k es') => h.cnt)
    have LC : (srtL (bitsL (allM N (compB N es)))).length ≤ 1024 := by rw [srtL_len, bitsL_len]; exact allM_len n10 _
    have LP : (srtL (bitsL (prefM N es))).length ≤ 1024 := by rw [srtL_len, bitsL_len]; exact allM_len n10 _
    have CP : 0 < (srtL (bitsL (allM N (compB N es)))).length := by rw [srtL_len, bitsL_len]; exact List.length_pos_of_mem (allM_mem.2 ⟨grd_lt (n := N) (es := es), grd_comp OK.out⟩)
    have PP : 0 < (srtL (bitsL (prefM N es))).length := by rw [srtL_len, bitsL_len]; exact List.length_pos_iff.2 (prefM_some OK.out)
    obtain ⟨SC, hSC⟩ : ∃ s, srtL (bitsL (allM N (compB N es))) = s := ⟨_, rfl⟩
    obtain ⟨SP, hSP⟩ : ∃ s, srtL (bitsL (prefM N es)) = s := ⟨_, rfl⟩
    rw [hSC] at SC3 CAT LC CP ⊢
    rw [hSP] at SP3 LP CNT PP ⊢
    have s0 : (((SC.length : Nat) : Int) == 0) = false := by show decide _ = false; exact decide_eq_false (by omega)
    clear hSC hSP oP b3 z0 z1 SC2 R2 RR C1 C2
    go_wp2_with fail
    refine (r8At_any B m d ys 0 (SC.length : Int) _ (KB.out.below B3.out) (by omega) (by omega)).mono ?_
    rintro e w4 ⟨r, rfl, hr, b4⟩
    obtain ⟨r0, r1⟩ := hr.lt (by omega)
    obtain ⟨r, rfl⟩ := Int.eq_ofNat_of_zero_le r0
    have rl : r < SC.length := by omega
    obtain ⟨gC, AE, cE, zE, rfl, _, glC, hzE, czE, ozE, _⟩ := (SC3.out.below b4).at rl
    obtain ⟨E, hE, hcE, rfl⟩ := CAT.out r zE hzE.out
    have C4 := Lib.hid (C3.out.below b4)
    have R4 := Lib.hid (R3.out.below b4)
    have B4 := Lib.hid (bel_trans B3.out b4)
    have SP4 := Lib.hid (SP3.out.below b4)
    have IE := Lib.hid ozE.ints
    have HCE := Lib.hid hcE
    have z0 := C4.out.cell 0 rfl
    have z1 := C4.out.cell 1 rfl
    clear hr b4 ozE hzE hcE C3 R3 SP3 SC3
    go_wp2_with fail
    refine (reduct_ok N es OK.out E hE HCE.out Q es.length dq AE cE _ R4.out IE.out).mono ?_
    rintro e w5 ⟨es2, A1, c1, B2', c2, rfl, hred, hR5, hI5, b5⟩
    obtain ⟨nm, hnm⟩ : ∃ l, nmL (lftM N es E) = l := ⟨_, rfl⟩
    have hbt := nmL_bits (lftM N es E)
    rw [hnm] at hred hI5 hbt
    simp only [hnm]
    have RD := Lib.hid hred
    have HBT := Lib.hid hbt
    have kl := hred.k_le
    have aL := bel_alloc w5 (.cells #[.int .i64 nm.length, .slice A1 es2.length c1] 26)
    have CL := Lib.hid (Cs.new w5 [.int .i64 nm.length, .slice A1 es2.length c1] 26)
    have C5 := Lib.hid (C4.out.below (bel_trans b5 aL))
    have R5 := Lib.hid (R4.out.below (bel_trans b5 aL))
    have L5 := Lib.hid (hR5.below aL)
    have N5 := Lib.hid (hI5.below aL)
    have B5 := Lib.hid (bel_trans B4.out (bel_trans b5 aL))
    have SP5 := Lib.hid (SP4.out.below (bel_trans b5 aL))
    have IE5 := Lib.hid (IE.out.below (bel_trans b5 aL))
    have x0 := C5.out.cell 0 rfl
    have x1 := CL.out.cell 0 rfl
    have t1 : decide ((nm.length : Int) < 0) = false := decide_eq_false (by omega)
    have t2 : decide ((N : Int) < (nm.length : Int)) = false := decide_eq_false (by omega)
    have t3 : ((nm.length : Int) != (nm.length : Int)) = false := by simp
    clear hred hbt hnm hR5 hI5 b5 aL z0 z1 C4 R4 SP4 IE B4 czE
    go_wp2_with fail
    refine (R8Set_any B m d ys nm.length (by omega) _ (KB.out.below B5.out)).mono ?_
    rintro e w6 ⟨s0', BS, dS, hs0, rfl, oo, b6⟩
    obtain ⟨s0, hs0e⟩ : ∃ x, x = s0' := ⟨_, rfl⟩
    subst hs0e
    obtain ⟨gL, hgL⟩ : ∃ g, w5.heap.size = g := ⟨_, rfl⟩
    rw [hgL] at CL
    have S6 := Lib.hid oo
    have C6 := Lib.hid (C5.out.below b6)
    have CL6 := Lib.hid (CL.out.below b6)
    have R6 := Lib.hid (R5.out.below b6)
    have L6 := Lib.hid (L5.out.below b6)
    have N6 := Lib.hid (N5.out.below b6)
    have B6 := Lib.hid (bel_trans B5.out b6)
    have SP6 := Lib.hid (SP5.out.below b6)
    have IE6 := Lib.hid (IE5.out.below b6)
    have O0 := Lib.hid (ownI_lit w6)
    have A6 := Lib.hid (bel_alloc w6 (.cells #[] 2))
    have UE := Lib.hid (fun x (hx : E.testBit x = true) => RD.out.up_E s0 x hx)
    have UN := Lib.hid (fun x (hx : x ∉ nm) => RD.out.up_no (S := s0) hx)
    have UA := Lib.hid (fun x i (hi : nm[i]? = some x) => RD.out.up_at (S := s0) hi)
    have UL := Lib.hid (RD.out.up_lt s0)
    have GI := Lib.hid (RD.out.good_iff hs0)
    obtain ⟨U, hU⟩ : ∃ u, upM N E nm s0 = u := ⟨_, rfl⟩
    rw [hU] at UE UN UA UL GI
    clear oo b6 C5 CL R5 L5 N5 B5 SP5 IE5 x0 x1 t1 t2 t3 hU
    have x0 := (C6.out.below A6.out).cell 0 rfl
    go_wp2_with fail
    clear x0
    go_loopw [15, 16] (fun s t wr => ∃ (x : Nat) (BB : Option Addr) (dB : Nat), x ≤ N ∧ t = .int .i64 x ∧ s = .slice BB (bitsTo U x).length dB ∧ OwnI wr w6.heap.size BB (bitsTo U x).length dB (bitsTo U x) ∧ Below w6.heap.size w6 wr) (fun _ t _ => N - (intOf t).toNat)
    case atStart => exact ⟨0, _, _, Nat.zero_le _, rfl, rfl, O0.out, A6.out⟩
    case round =>
      obtain ⟨x, BB, dB, hx, rfl, rfl, hO, hB⟩ := hrel
      have HO := Lib.hid hO
      have HB := Lib.hid hB
      have hs := hB.size
      have ll := bitsTo_len U x
      have C7 := Lib.hid (C6.out.below hB)
      have f0 := C7.out.cell 0 rfl
      clear hO hB O0 A6
      by_cases hxn : x < N
      · have d0 := decide_eq_true (show (x : Int) < (N : Int) by omega)
        have BS1 := bitsTo_succ U x
        have N7 := Lib.hid (N6.out.below HB.out)
        have RI := Lib.hid (r8Index_ok nm x B2' c2 _ HBT.out wr N7.out)
        have RE := Lib.hid (r8Has_any AE _ cE _ x wr (IE6.out.below HB.out))
        rw [bitsTo_has (by omega)] at RE
        have RS := Lib.hid (fun i : Nat => r8Has_any BS _ dS _ i wr (S6.out.ints.below HB.out))
        have ue := UE.out x
        have un := UN.out x
        have ua := UA.out x
        obtain ⟨L, hL⟩ : ∃ l, bitsTo U x = l := ⟨_, rfl⟩
        rw [hL] at HO BS1 ll ⊢
        have APP : Hid (∀ (P : Prop), P → P) := fun _ h => h
        cases he : E.testBit x
        · rw [he] at RE
          go_wp2_with fail
          refine RI.out.mono ?_
          rintro e w7 ⟨r, rfl, hr, rfl⟩
          rcases hr with ⟨rfl, hni⟩ | ⟨i, rfl, hri⟩
          · have E1 := Lib.hid (show bitsTo U (x + 1) = L by rw [BS1, un hni, he]; simp)
            have g1 : decide ((0 : Int) ≤ -1) = false := by decide
            clear hni ue un ua he BS1 hL
            go_wp2_with fail
            refine RE.out.mono ?_
            rintro e w8 ⟨rfl, rfl⟩
            go_wp2_with fail
            go_roundw
            case rel => exact ⟨x + 1, BB, dB, by omega, by go_num, by rw [E1.out], by rw [E1.out]; exact HO.out, HB.out⟩
            case measure => simp [intOf]; omega
          · have hik := (List.getElem?_eq_some_iff.1 hri).1
            have g1 : decide ((0 : Int) ≤ (i : Int)) = true := decide_eq_true (by omega)
            have RSi := Lib.hid (RS.out i)
            rw [bitsTo_has (by omega)] at RSi
            have ub := ua i hri
            rw [he, Bool.false_or] at ub
            obtain ⟨v, hv⟩ : ∃ v, s0.testBit i = v := ⟨_, rfl⟩
            rw [hv] at ub RSi
            rw [ub] at BS1
            cases v
            · have E1 := Lib.hid (show bitsTo U (x + 1) = L by rw [BS1]; simp)
              clear hri ue un ua ub he hv BS1 hL
              go_wp2_with fail
              refine RE.out.mono ?_
              rintro e w8 ⟨rfl, rfl⟩
              go_wp2_with fail
              refine RSi.out.mono ?_
              rintro e w8 ⟨rfl, rfl⟩
              go_wp2_with fail
              go_roundw
              case rel => exact ⟨x + 1, BB, dB, by omega, by go_num, by rw [E1.out], by rw [E1.out]; exact HO.out, HB.out⟩
              case measure => simp [intOf]; omega
            · have E1 := Lib.hid (show bitsTo U (x + 1) = L ++ [(x : Int)] by rw [BS1]; simp)
              clear hri ue un ua ub he hv BS1 hL
              go_wp2_with fail
              refine RE.out.mono ?_
              rintro e w8 ⟨rfl, rfl⟩
              go_wp2_with fail
              refine RSi.out.mono ?_
              rintro e w8 ⟨rfl, rfl⟩
              go_wp2_with (at_builtin; refine app_int_at wr rfl _ _ rfl w6.heap.size BB L.length dB L rfl HO.out (x : Int) (by omega) (by omega) rfl (by omega) hs ?_; intro A7 c7 w7 p1 p2 p3; have P7 := Lib.hid p1; have B7 := Lib.hid (HB.out.grown p2 hs (fun y hy => (HO.out.block y hy).1)); clear p1 p2 p3)
              go_roundw
              case rel => exact ⟨x + 1, A7, c7, by omega, by go_num, by rw [E1.out]; simp, by rw [E1.out]; simpa using P7.out, B7.out⟩
              case measure => simp [intOf]; omega
        · rw [he] at RE
          have E1 := Lib.hid (show bitsTo U (x + 1) = L ++ [(x : Int)] by rw [BS1, ue he]; simp)
          clear ue un ua he BS1 hL
          go_wp2_with fail
          refine RI.out.mono ?_
          rintro e w7 ⟨r, rfl, hr, rfl⟩
          clear hr
          go_wp2_with fail
          refine RE.out.mono ?_
          rintro e w8 ⟨rfl, rfl⟩
          go_wp2_with (at_builtin; refine app_int_at wr rfl _ _ rfl w6.heap.size BB L.length dB L rfl HO.out (x : Int) (by omega) (by omega) rfl (by omega) hs ?_; intro A7 c7 w7 p1 p2 p3; have P7 := Lib.hid p1; have B7 := Lib.hid (HB.out.grown p2 hs (fun y hy => (HO.out.block y hy).1)); clear p1 p2 p3)
          go_roundw
          case rel => exact ⟨x + 1, A7, c7, by omega, by go_num, by rw [E1.out]; simp, by rw [E1.out]; simpa using P7.out, B7.out⟩
          case measure => simp [intOf]; omega
      · have hxN : x = N := by omega
        have d0 := decide_eq_false (show ¬ (x : Int) < (N : Int) by omega)
        have ET : bitsTo U x = bitsTo U 10 := by rw [hxN]; exact (bitsTo_top UL.out n10).symm
        rw [ET] at HO ⊢
        have CL7 := Lib.hid (CL6.out.below HB.out)
        have SS := Lib.hid (fun (W : World) (hW : Below wr.heap.size wr W) => (show Below wr.heap.size wr W ∧ W.cell? ⟨gF, 0, none⟩ = some (.int .i64 N) ∧ W.cell? ⟨gF, 1, none⟩ = some (.slice Q es.length dq) ∧ W.cell? ⟨gL, 0, none⟩ = some (.int .i64 nm.length) ∧ W.cell? ⟨gL, 1, none⟩ = some (.slice A1 es2.length c1) from ⟨hW, (C7.out.below hW).cell 0 rfl, (C7.out.below hW).cell 1 rfl, (CL7.out.below hW).cell 0 rfl, (CL7.out.below hW).cell 1 rfl⟩))
        have IA := Lib.hid (fun W (hW : Below wr.heap.size wr W) => isAdm_ok N es OK.out U UL.out Q es.length dq BB dB W (R6.out.below (bel_trans HB.out hW)) (HO.out.ints.below hW))
        have IB := Lib.hid (fun W (hW : Below wr.heap.size wr W) => isAdm_ok nm.length es2 RD.out.ok' s0 hs0 A1 es2.length c1 BS dS W (L6.out.below (bel_trans HB.out hW)) (S6.out.ints.below (bel_trans HB.out hW)))
        simp only [← GI.out] at IB
        obtain ⟨gv, hgv⟩ : ∃ v, goodB N es U = v := ⟨_, rfl⟩
        simp only [hgv] at IA IB
        have uu : (gv != gv) = false := by simp
        clear hgv ET
        go_wp2_with fail
        refine wp_region_noPanic ?_
        refine wp_region_R (inFirst (fun W => Below wr.heap.size wr W ∧ W.cell? ⟨gF, 0, none⟩ = some (.int .i64 N) ∧ W.cell? ⟨gF, 1, none⟩ = some (.slice Q es.length dq) ∧ W.cell? ⟨gL, 0, none⟩ = some (.int .i64 nm.length) ∧ W.cell? ⟨gL, 1, none⟩ = some (.slice A1 es2.length c1)) 7) (by kernel_rfl) ?_
        have hS := SS.out wr.drew ⟨rfl, rfl, rfl, Nat.le_refl _, fun _ _ => rfl⟩
        refine anyR_take (i := 0) (.agg #[.int .i64 N, .slice Q es.length dq]) rfl (by kernel_rfl) (by kernel_rfl) (by kernel_rfl) (by kernel_rfl) (fun _ _ _ h => h) (by assumption) ⟨by rfl, ?_⟩ ?_
        · intro W hW
          go_simp
        try simp only [Act.put, List.setIfInBounds_toArray, List.set_cons_zero, List.set_cons_succ, List.getElem_toArray, List.getElem_cons_zero, List.getElem_cons_succ]
        refine anyR_take (i := 1) (.slice BB (bitsTo U 10).length dB) rfl (by kernel_rfl) (by kernel_rfl) (by kernel_rfl) (by kernel_rfl) (fun _ _ _ h => h) (by assumption) ⟨by rfl, ?_⟩ ?_
        · intro W hW
          go_simp
        try simp only [Act.put, List.setIfInBounds_toArray, List.set_cons_zero, List.set_cons_succ, List.getElem_toArray, List.getElem_cons_zero, List.getElem_cons_succ]
        refine anyR_take (i := 3) (.agg #[.int .i64 nm.length, .slice A1 es2.length c1]) rfl (by kernel_rfl) (by kernel_rfl) (by kernel_rfl) (by kernel_rfl) (fun _ _ _ h => h) (by assumption) ⟨by rfl, ?_⟩ ?_
        · intro W hW
          go_simp
        try simp only [Act.put, List.setIfInBounds_toArray, List.set_cons_zero, List.set_cons_succ, List.getElem_toArray, List.getElem_cons_zero, List.getElem_cons_succ]
        refine anyR_take (i := 4) (.slice BS (bitsTo s0 10).length dS) rfl (by kernel_rfl) (by kernel_rfl) (by kernel_rfl) (by kernel_rfl) (fun _ _ _ h => h) (by assumption) ⟨by rfl, ?_⟩ ?_
        · intro W hW
          go_simp
        try simp only [Act.put, List.setIfInBounds_toArray, List.set_cons_zero, List.set_cons_succ, List.getElem_toArray, List.getElem_cons_zero, List.getElem_cons_succ]
        refine anyR_one (i := 2) (by kernel_rfl) rfl ?_
        intro K hK
        go_simp
        go_at_call 46
        refine (IA.out _ hS.1).mono ?_
        rintro e w9 ⟨rfl, b9⟩
        have hT := SS.out w9 (bel_trans hS.1 b9)
        refine hK.out _ _ (fun _ => hT) ?_
        clear hS b9
        have hS := hT
        clear hT
        clear hK K
        try simp only [Act.put, List.setIfInBounds_toArray, List.set_cons_zero, List.set_cons_succ, List.getElem_toArray, List.getElem_cons_zero, List.getElem_cons_succ]
        refine anyR_one (i := 5) (by kernel_rfl) rfl ?_
        intro K hK
        go_simp
        go_at_call 46
        refine (IB.out _ hS.1).mono ?_
        rintro e w9 ⟨rfl, b9⟩
        have hT := SS.out w9 (bel_trans hS.1 b9)
        refine hK.out _ _ (fun _ => hT) ?_
        clear hS b9
        have hS := hT
        clear hT
        clear hK K
        try simp only [Act.put, List.setIfInBounds_toArray, List.set_cons_zero, List.set_cons_succ, List.getElem_toArray, List.getElem_cons_zero, List.getElem_cons_succ]
        refine anyR_take (i := 6) (.bool false) rfl (by kernel_rfl) (by kernel_rfl) (by kernel_rfl) (by kernel_rfl) (fun _ _ _ h => h) (by assumption) ⟨by rfl, ?_⟩ ?_
        · intro W hW
          go_simp
        try simp only [Act.put, List.setIfInBounds_toArray, List.set_cons_zero, List.set_cons_succ, List.getElem_toArray, List.getElem_cons_zero, List.getElem_cons_succ]
        refine anyR_done (by kernel_rfl) ?_ _
        refine NoPanic.normal ?_
        have HS1 := Lib.hid hS.1
        have l0 := hS.2.2.2.1
        have l1 := hS.2.2.2.2
        clear SS IA IB
        go_wp2_with fail
        have BW := bel_trans HB.out HS1.out
        refine (prefSI_ok nm.length es2 RD.out.ok' (frB_of RD.out.ok') A1 es2.length c1 _ (L6.out.below BW)).mono ?_
        rintro e w10 ⟨AR, cR, vR, rfl, oR, b10⟩
        have B10 := Lib.hid (bel_trans B6.out (bel_trans BW b10))
        have SP10 := Lib.hid (SP6.out.below (bel_trans BW b10))
        have IE10 := Lib.hid (IE6.out.below (bel_trans BW b10))
        have CN := Lib.hid (CNT.out E nm nm.length es2 RD.out)
        have RLE : (srtL (bitsL (prefM nm.length es2))).length = (prefM nm.length es2).length := by rw [srtL_len, bitsL_len]
        rw [← RLE] at CN
        obtain ⟨RL, hRL⟩ : ∃ x, (srtL (bitsL (prefM nm.length es2))).length = x := ⟨_, rfl⟩
        rw [hRL] at CN ⊢
        clear oR b10 BW l0 l1 hS RLE hRL
        go_wp2_with fail
        go_loop [20, 21] (fun ct t => ∃ q : Nat, q ≤ SP.length ∧ t = .int .i64 q ∧ ct = .int .i64 (((SP.take q).filter fun z => (bitsTo E 10).all fun b => z.any (· == b)).length : Nat)) (fun _ t => SP.length - (intOf t).toNat)
        case atStart => exact ⟨0, Nat.zero_le _, rfl, rfl⟩
        case round =>
          obtain ⟨q, hq, rfl, rfl⟩ := hrel
          by_cases hql : q < SP.length
          · have dq2 := decide_eq_true (show (q : Int) < (SP.length : Int) by omega)
            have q0 : (0 : Int) ≤ (q : Int) := by omega
            have q1 : (q : Int) < (SP.length : Int) := by omega
            obtain ⟨gP, Aq, cq, zq, rfl, _, _, hzq, czq, ozq, _⟩ := SP10.out.at hql
            have RI := Lib.hid (r8Inside_any AE _ cE _ Aq _ cq _ w10 IE10.out ozq.ints)
            have TK := Lib.hid (show ((SP.take (q + 1)).filter fun z => (bitsTo E 10).all fun b => z.any (· == b)).length = ((SP.take q).filter fun z => (bitsTo E 10).all fun b => z.any (· == b)).length + (if ((bitsTo E 10).all fun b => zq.any (· == b)) = true then 1 else 0) by
              rw [take_snoc' hzq.out, List.filter_append, List.length_append]
              congr 1
              simp only [List.filter_cons, List.filter_nil]
              split <;> rfl)
            have TL : ((SP.take q).filter fun z => (bitsTo E 10).all fun b => z.any (· == b)).length ≤ q := Nat.le_trans (List.length_filter_le _ _) (by rw [List.length_take]; omega)
            obtain ⟨u2, hu2⟩ : ∃ u, ((bitsTo E 10).all fun b => zq.any (· == b)) = u := ⟨_, rfl⟩
            obtain ⟨v2, hv2⟩ : ∃ v, ((SP.take q).filter fun z => (bitsTo E 10).all fun b => z.any (· == b)).length = v := ⟨_, rfl⟩
            rw [hu2, hv2] at TK
            rw [hv2] at TL ⊢
            rw [hu2] at RI
            clear hu2 hv2 ozq hzq
            cases u2
            · go_wp2_with fail
              refine RI.out.mono ?_
              rintro e w1 ⟨rfl, rfl⟩
              go_wp2_with fail
              go_round
              case rel => exact ⟨q + 1, by omega, by go_num, by rw [TK.out]; rfl⟩
              case measure => simp [intOf]; omega
            · go_wp2_with fail
              refine RI.out.mono ?_
              rintro e w1 ⟨rfl, rfl⟩
              go_wp2_with fail
              go_round
              case rel => exact ⟨q + 1, by omega, by go_num, by rw [TK.out]; go_num⟩
              case measure => simp [intOf]; omega
          · have hqq : q = SP.length := by omega
            have dq2 := decide_eq_false (show ¬ (q : Int) < (SP.length : Int) by omega)
            rw [show SP.take q = SP by rw [hqq, List.take_length], CN.out]
            have ee : ((RL : Int) == (RL : Int)) = true := by simp
            go_wp2_with fail
            go_ret
            exact ⟨rfl, B10.out⟩
end Go.Proofs.Yteejfjgofpolkaa
