/- The law FnSources, walked. -/
import Derived.Test.YtcoladhppbknnaaAcLw
namespace Go.Proofs.Ytcoladhppbknnaa
set_option linter.unusedVariables false
set_option linter.unusedSimpArgs false
set_option maxRecDepth 100000
open Go.RowKit Go.Deep
theorem fnd_snoc {l : List Ar} {a : Ar} (id : Int) (h : ∀ b ∈ l, b.id < a.id) : fnd (l ++ [a]) id = if a.id = id then a.text else fnd l id := by
  induction l with
  | nil => rfl
  | cons b l ih =>
    have ih := ih (fun x hx => h x (List.mem_cons_of_mem _ hx))
    have hb := h b (List.mem_cons_self ..)
    show (if b.id = id then b.text else fnd (l ++ [a]) id) = if a.id = id then a.text else (if b.id = id then b.text else fnd l id)
    rw [ih]
    by_cases h1 : b.id = id
    · rw [if_pos h1, if_neg (by omega), if_pos h1]
    · rw [if_neg h1, if_neg h1]
theorem fnd_take {s : List Ar} (hs : SOk s) {k : Nat} {a : Ar} (h : s[k]? = some a) (id : Int) : fnd (s.take (k + 1)) id = if a.id = id then a.text else fnd (s.take k) id := by
  rw [take_snoc' h]
  refine fnd_snoc id fun b hb => ?_
  obtain ⟨i, hi, rfl⟩ := List.mem_take_iff_getElem.1 hb
  obtain ⟨hk, rfl⟩ := List.getElem?_eq_some_iff.1 h
  exact List.pairwise_iff_getElem.1 hs.srt i k (by omega) hk (by omega)
def lst (p : List Ed) (id : Int) : ByteArray := match edo p id with | some e => e.new | none => ByteArray.empty
theorem lst_some {p : List Ed} {id : Int} {e : Ed} (h : edo p id = some e) : lst p id = e.new := by unfold lst; rw [h]
theorem lst_take {p : List Ed} (hp : POk p) {k : Nat} {a : Ed} (h : p[k]? = some a) (id : Int) : lst (p.take (k + 1)) id = if a.id = id then a.new else lst (p.take k) id := by
  have hlt : ∀ b ∈ p.take k, b.id < a.id := by
    intro b hb
    obtain ⟨i, hi, rfl⟩ := List.mem_take_iff_getElem.1 hb
    obtain ⟨hk, rfl⟩ := List.getElem?_eq_some_iff.1 h
    exact List.pairwise_iff_getElem.1 hp.srt i k (by omega) hk (by omega)
  rw [take_snoc' h]
  unfold lst
  rw [edo_app]
  by_cases h1 : a.id = id
  · have h2 : edo (p.take k) id = none := edo_none fun b hb e => by have := hlt b hb; omega
    have h3 : edo [a] id = some a := if_pos h1
    rw [h2, h3, if_pos h1]
    rfl
  · have h3 : edo [a] id = none := if_neg h1
    rw [h3, if_neg h1]
    cases edo (p.take k) id <;> rfl
theorem znt_any {l : List Nat} {i : Nat} (h : i ∈ l) : (znt l).any (· == (i : Int)) = true := List.any_eq_true.2 ⟨(i : Int), List.mem_map.2 ⟨i, h, rfl⟩, by simp⟩
set_option maxHeartbeats 8000000 in
theorem fnSources_walk (w : World) (A : Option Addr) (n c : Nat) (zs : List Int) (h : Ints .u8 w A n c zs) (B : Option Addr) (m d : Nat) (ys : List Int) (k : Ints .u8 w B m d ys) :
    Calls Try.prog 7 #[.slice A n c, .slice B m d] w fun e w' => e = .returned (.bool true) ∧ Below w.heap.size w w' := by
  have hn := h.short
  have hm := k.short
  by_cases h1 : (decide ((1048576 : Int) < n) || decide ((1048576 : Int) < m)) = true
  · have H1 := Lib.hid h1
    clear h1
    go_enter Try.func7, Try.ntmps7
    go_wp2_with fail
    refine (b10Long_ok A n c B m d _ hn hm).mono ?_
    rintro e w1 ⟨rfl, rfl⟩
    rw [H1.out]
    go_wp2_with fail
    go_ret
    exact ⟨rfl, Below.refl _ _⟩
  have H1 : Hid ((decide ((1048576 : Int) < n) || decide ((1048576 : Int) < m)) = false) := by show _ = _; simpa using h1
  have HA := Lib.hid h
  have HB := Lib.hid k
  clear h1 h k
  go_enter Try.func7, Try.ntmps7
  go_wp2_with fail
  refine (b10Long_ok A n c B m d _ hn hm).mono ?_
  rintro e w1 ⟨rfl, rfl⟩
  rw [H1.out]
  go_wp2_with fail
  refine (b10Acts_any A n c zs _ HA.out).mono ?_
  rintro e w2 ⟨s, SA, sn, sc, es, EA, en, ec, rfl, hs, hl, h98, hv, p98, ha, hac, b2⟩
  have B2 := Lib.hid b2
  have OKs := Lib.hid hs
  have A2 := Lib.hid ha
  have E2 := Lib.hid hac
  have HV := Lib.hid hv
  have X98 := Lib.hid h98
  have Y98 := Lib.hid p98
  have Eln := hac.len
  have e8 := (acV_of hv).len
  clear b2 hs h98 hv p98 ha hac
  go_wp2_with fail
  refine (b10At_ok B m d ys 0 40 _ (HB.out.below B2.out) (by omega) (by omega) (by omega)).mono ?_
  rintro e w3 ⟨day, rfl, hq, b3⟩
  obtain ⟨q0, q1⟩ := hq.lt (by omega)
  have DY := Lib.hid (show inR day 0 999 = true by unfold inR; simp; omega)
  have B3 := Lib.hid (bel_trans B2.out b3)
  have A3 := Lib.hid (A2.out.below b3)
  have E3 := Lib.hid (E2.out.below b3)
  clear hq b3 A2 E2 B2
  go_wp2_with fail
  refine (TextOn_ok SA sn sc s EA en ec es day _ A3.out E3.out OKs.out hl HV.out DY.out).mono ?_
  rintro e w4 ⟨hr, b4⟩
  have B4 := Lib.hid (bel_trans B3.out b4)
  have A4 := Lib.hid (A3.out.below b4)
  have E4 := Lib.hid (E3.out.below b4)
  have HR := Lib.hid hr
  clear hr b4 A3 E3 B3
  rcases HR.out with ⟨q, O, N, oc, ht, rfl, ho⟩ | ⟨ht, rfl⟩
  case inr =>
    have HT := Lib.hid ht
    clear ht HR
    go_wp2_with fail
    refine (ActsInForce_ok EA en ec es day _ E4.out HV.out (by omega) DY.out).mono ?_
    rintro e w5 ⟨FA, FL, fc, rfl, hf, b5⟩
    have B5 := Lib.hid (bel_trans B4.out b5)
    have A5 := Lib.hid (A4.out.below b5)
    have E5 := Lib.hid (E4.out.below b5)
    clear hf b5 A4 E4 B4
    have SO := Lib.hid (SourceOf_ok SA sn sc s EA en ec es day 1 w5 A5.out E5.out OKs.out hl HV.out DY.out)
    rw [srR_none HT.out] at SO
    go_wp2_with fail
    refine SO.out.mono ?_
    rintro e w6 ⟨rfl, b6⟩
    have B6 := Lib.hid (bel_trans B5.out b6)
    clear b6
    go_wp2_with fail
    go_ret
    exact ⟨rfl, B6.out⟩
  have HT := Lib.hid ht
  have TXT := Lib.hid (txt_src (acV_of HV.out) OKs.out hl ht)
  have TO := Lib.hid (txt_out (acV_of HV.out) OKs.out hl ht X98.out Y98.out)
  have Q4 := Lib.hid (ho.ars' TXT.out.1)
  have qln := ho.len
  have q8 := TXT.out.2.1
  clear ht HR ho
  go_wp2_with fail
  refine (ActsInForce_ok EA en ec es day _ E4.out HV.out (by omega) DY.out).mono ?_
  rintro e w5 ⟨FA, FL, fc, rfl, hf, b5⟩
  have B5 := Lib.hid (bel_trans B4.out b5)
  have A5 := Lib.hid (A4.out.below b5)
  have E5 := Lib.hid (E4.out.below b5)
  have Q5 := Lib.hid (Q4.out.below b5)
  have F5 := Lib.hid hf.ints
  clear hf b5 A4 E4 B4 Q4
  go_wp2_with fail
  go_loopw [14] (fun i wr => ∃ k : Nat, k ≤ N ∧ i = .int .i64 k ∧ Below w.heap.size w wr ∧ Below w5.heap.size w5 wr) (fun i _ => N - (intOf i).toNat)
  case atStart => exact ⟨0, Nat.zero_le _, rfl, B5.out, Below.refl _ _⟩
  case round =>
    obtain ⟨k, hk, rfl, hb, hb2⟩ := hrel
    have HW := Lib.hid hb
    have HX := Lib.hid hb2
    clear hb hb2
    by_cases hlt : k < N
    case neg =>
      obtain rfl : N = k := by omega
      have SO := Lib.hid (SourceOf_ok SA sn sc s EA en ec es day 98 wr (A5.out.below HX.out) (E5.out.below HX.out) OKs.out hl HV.out DY.out)
      rw [srR_out HT.out TO.out] at SO
      go_wp2_with fail
      refine SO.out.mono ?_
      rintro e w6 ⟨rfl, b6⟩
      have B6 := Lib.hid (bel_trans HW.out b6)
      clear b6
      go_wp2_with fail
      go_ret
      exact ⟨rfl, B6.out⟩
    have d0 := decide_eq_true (show (k : Int) < (N : Int) by omega)
    have k0 : (0 : Int) ≤ (k : Int) := by omega
    have k1 : (k : Int) < (N : Int) := by omega
    obtain ⟨bq, oq, a, rfl, hbq, haq, _, c0, c1⟩ := (Q5.out.below HX.out).at hlt
    have FA' := fnd_mem TXT.out.1.srt (List.mem_of_getElem? haq.out)
    have NE := senB_ne (TXT.out.1.txt a (List.mem_of_getElem? haq.out))
    have SO := Lib.hid (SourceOf_ok SA sn sc s EA en ec es day a.id wr (A5.out.below HX.out) (E5.out.below HX.out) OKs.out hl HV.out DY.out)
    rw [srR_ok HT.out (by rw [FA']; exact NE)] at SO
    have CS := TXT.out.2.2 a.id
    rw [FA'] at CS
    clear haq FA' NE
    have sbq : bq < wr.heap.size := hbq
    obtain ⟨id, hid⟩ : ∃ x, a.id = x := ⟨_, rfl⟩
    obtain ⟨tx, htx⟩ : ∃ x, a.text = x := ⟨_, rfl⟩
    rw [hid] at c0 SO CS
    rw [htx] at c1 CS
    clear hid htx
    rcases CS with ⟨hsrc, hfb⟩ | ⟨i, hi, hsrc, e, he, hnew⟩
    · rw [hsrc] at SO
      have FB := Lib.hid hfb
      clear hsrc hfb
      go_wp2_with fail
      refine SO.out.mono ?_
      rintro x w6 ⟨rfl, b6⟩
      have B6 := Lib.hid (bel_trans HW.out b6)
      have X6 := Lib.hid (bel_trans HX.out b6)
      have y0 := (b6.cell (p := ⟨bq, oq + k * 2, none⟩) sbq).trans c0
      have y1 := (b6.cell (p := ⟨bq, oq + k * 2 + 1, none⟩) sbq).trans c1
      have sq6 : bq < w6.heap.size := Nat.lt_of_lt_of_le sbq b6.size
      clear b6 SO c0 c1
      have s8 : sn ≤ 8 := by have := A5.out.len; omega
      go_wp2_with fail
      go_loopw [17, 18] (fun s17 t wj => ∃ j : Nat, j ≤ sn ∧ s17 = .string (fnd (s.take j) id) ∧ t = .int .i64 j ∧ Below w6.heap.size w6 wj) (fun _ t _ => sn - (intOf t).toNat)
      case atStart => exact ⟨0, Nat.zero_le _, rfl, rfl, Below.refl _ _⟩
      case round =>
        obtain ⟨j, hj, rfl, rfl, hbj⟩ := hrel
        have HJ := Lib.hid hbj
        have z0 := (HJ.out.cell (p := ⟨bq, oq + k * 2, none⟩) sq6).trans y0
        have z1 := (HJ.out.cell (p := ⟨bq, oq + k * 2 + 1, none⟩) sq6).trans y1
        clear hbj
        by_cases hjs : j < sn
        · have e0 := decide_eq_true (show (j : Int) < (sn : Int) by omega)
          have j0 : (0 : Int) ≤ (j : Int) := by omega
          have j1 : (j : Int) < (sn : Int) := by omega
          obtain ⟨bb, bo, x, rfl, hbb, hx, _, x0, x1⟩ := (A5.out.below (bel_trans X6.out HJ.out)).at hjs
          have FT := fnd_take OKs.out hx.out id
          clear hx
          by_cases hxi : x.id = id
          · rw [if_pos hxi] at FT
            have FTT := Lib.hid FT
            have d1 := decide_eq_true hxi
            have d2 : (x.id == id) = true := by rw [beq_iff_eq]; exact hxi
            clear FT
            go_wp2_with fail
            go_quiet (fail)
            go_wp2_with fail
            go_roundw
            case rel => exact ⟨j + 1, by omega, by rw [FTT.out], by go_num, below_drewN HJ.out _⟩
            case measure => simp [intOf]; omega
          · rw [if_neg hxi] at FT
            have FTT := Lib.hid FT
            have d1 := decide_eq_false hxi
            have d2 : (x.id == id) = false := by rw [beq_eq_false_iff_ne]; exact hxi
            clear FT hxi
            go_wp2_with fail
            go_quiet (fail)
            go_wp2_with fail
            go_roundw
            case rel => exact ⟨j + 1, by omega, by rw [FTT.out], by go_num, below_drewN HJ.out _⟩
            case measure => simp [intOf]; omega
        · obtain rfl : sn = j := by omega
          have FE := show fnd (s.take sn) id = tx by rw [List.take_of_length_le (by have := A5.out.len; omega)]; exact FB.out.symm
          have e0 := decide_eq_false (show ¬ (sn : Int) < (sn : Int) by omega)
          have TE := Lib.hid (bel_trans B6.out HJ.out)
          have TX := Lib.hid (bel_trans X6.out HJ.out)
          rw [FE]
          go_wp2_with fail
          go_roundw
          case rel => exact ⟨k + 1, by omega, by go_num, TE.out, TX.out⟩
          case measure => simp [intOf]; omega
    · rw [hsrc] at SO
      obtain ⟨x, hxe⟩ : ∃ x, es[i]? = some x := by
        cases hh : es[i]? with
        | some x => exact ⟨x, rfl⟩
        | none =>
          rw [List.getD_eq_getElem?_getD, hh] at he
          cases he
      have hie : i < es.length := (List.getElem?_eq_some_iff.1 hxe).1
      have GE := getD_ac hxe
      rw [GE] at he
      have FP := Lib.hid (show lst x.p id = tx by rw [lst_some he, hnew])
      have PK := ((acV_of HV.out).ok x (List.mem_of_getElem? hxe)).1
      have PKP := Lib.hid PK
      have HXE := Lib.hid hxe
      have HAS := Lib.hid (fun W (hW : Ints .i64 W FA FL fc (znt (frN es day en))) => b10Has_any FA FL fc _ (i : Int) W hW)
      rw [znt_any hi] at HAS
      have ien : i < en := by omega
      have i0 : (0 : Int) ≤ (i : Int) := by omega
      have i1 : (i : Int) < (en : Int) := by omega
      have dm1 := decide_eq_false (show ¬ (i : Int) < -1 by omega)
      have dm2 := decide_eq_false (show ¬ (en : Int) ≤ (i : Int) by omega)
      have dm3 := decide_eq_false (show ¬ (i : Int) < 0 by omega)
      clear hsrc he hnew hi GE PK hxe hie
      go_wp2_with fail
      refine SO.out.mono ?_
      rintro _ w6 ⟨rfl, b6⟩
      have B6 := Lib.hid (bel_trans HW.out b6)
      have X6 := Lib.hid (bel_trans HX.out b6)
      have y0 := (b6.cell (p := ⟨bq, oq + k * 2, none⟩) sbq).trans c0
      have y1 := (b6.cell (p := ⟨bq, oq + k * 2 + 1, none⟩) sbq).trans c1
      have sq6 : bq < w6.heap.size := Nat.lt_of_lt_of_le sbq b6.size
      clear b6 SO c0 c1
      have x16 := x.p.length
      obtain ⟨be, bo, x', rfl, hbe, hx', okx, g0, g1, g2⟩ := (E5.out.below X6.out).at ien
      have ex : x' = x := by have := HXE.out; rw [hx'.out] at this; injection this
      subst ex
      have PX := Lib.hid okx.out.p
      clear hx' okx g0 g1
      have pn9 : x'.n ≤ 16 := by
        have := PX.out.len
        have := ((acV_of HV.out).ok x' (List.mem_of_getElem? HXE.out)).2
        omega
      go_wp2_with fail
      go_loopw [17, 19] (fun s17 t wj => ∃ j : Nat, j ≤ x'.n ∧ s17 = .string (lst (x'.p.take j) id) ∧ t = .int .i64 j ∧ Below w6.heap.size w6 wj) (fun _ t _ => x'.n - (intOf t).toNat)
      case atStart => exact ⟨0, Nat.zero_le _, rfl, rfl, Below.refl _ _⟩
      case round =>
        obtain ⟨j, hj, rfl, rfl, hbj⟩ := hrel
        have HJ := Lib.hid hbj
        have z0 := (HJ.out.cell (p := ⟨bq, oq + k * 2, none⟩) sq6).trans y0
        have z1 := (HJ.out.cell (p := ⟨bq, oq + k * 2 + 1, none⟩) sq6).trans y1
        have z2 := (HJ.out.cell (p := ⟨be, bo + i * 3 + 2, none⟩) hbe).trans g2
        clear hbj
        by_cases hjs : j < x'.n
        · have e0 := decide_eq_true (show (j : Int) < (x'.n : Int) by omega)
          have j0 : (0 : Int) ≤ (j : Int) := by omega
          have j1 : (j : Int) < (x'.n : Int) := by omega
          obtain ⟨bp, bpo, y, hA, hbp, hy, _, p0, p1, p2, p3⟩ := (PX.out.below HJ.out).at hjs
          have FT := lst_take PKP.out hy.out id
          clear hy
          rw [hA] at z2
          by_cases hxi : y.id = id
          · rw [if_pos hxi] at FT
            have FTT := Lib.hid FT
            have d1 := decide_eq_true hxi
            have d2 : (y.id == id) = true := by rw [beq_iff_eq]; exact hxi
            clear FT
            go_wp2_with fail
            go_quiet (fail)
            go_wp2_with fail
            go_roundw
            case rel => exact ⟨j + 1, by omega, by rw [FTT.out], by go_num, below_drewN HJ.out _⟩
            case measure => simp [intOf]; omega
          · rw [if_neg hxi] at FT
            have FTT := Lib.hid FT
            have d1 := decide_eq_false hxi
            have d2 : (y.id == id) = false := by rw [beq_eq_false_iff_ne]; exact hxi
            clear FT hxi
            go_wp2_with fail
            go_quiet (fail)
            go_wp2_with fail
            go_roundw
            case rel => exact ⟨j + 1, by omega, by rw [FTT.out], by go_num, below_drewN HJ.out _⟩
            case measure => simp [intOf]; omega
        · obtain rfl : x'.n = j := by omega
          have FE := show lst (x'.p.take x'.n) id = tx by rw [List.take_of_length_le (by have := PX.out.len; omega)]; exact FP.out
          have e0 := decide_eq_false (show ¬ (x'.n : Int) < (x'.n : Int) by omega)
          have TE := Lib.hid (bel_trans B6.out HJ.out)
          have TX := Lib.hid (bel_trans X6.out HJ.out)
          rw [FE]
          go_wp2_with fail
          refine (HAS.out _ (F5.out.below TX.out)).mono ?_
          rintro _ w7 ⟨rfl, rfl⟩
          go_wp2_with fail
          go_roundw
          case rel => exact ⟨k + 1, by omega, by go_num, TE.out, TX.out⟩
          case measure => simp [intOf]; omega
end Go.Proofs.Ytcoladhppbknnaa
