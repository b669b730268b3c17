/- The laws FnComposed and FnPatched, walked. -/
import Derived.Test.YtcoladhppbknnaaStG
namespace Go.Proofs.Ytcoladhppbknnaa
set_option linter.unusedVariables false
set_option linter.unusedSimpArgs false
set_option maxRecDepth 100000
open Go.RowKit Go.Deep
theorem cmp_len {p q : List Ed} (hp : PD p) (hq : PD q) : (Gs (cmpF p q) 99).length ≤ 16 := by
  refine Gs_short (cmp_one p q) (fun k hk => ?_) 99
  have h1 : edo p ((k : Int) + 1) = none := edo_none fun e he c => by have := hp.ids e he; omega
  have h2 : edo q ((k : Int) + 1) = none := edo_none fun e he c => by have := hq.ids e he; omega
  exact cmpF_none h1 h2
set_option maxHeartbeats 4000000 in
theorem fnComposed_walk (w : World) (A : Option Addr) (n c : Nat) (zs : List Int) (h : Ints .u8 w A n c zs) (B : Option Addr) (m d : Nat) (ys : List Int) (k : Ints .u8 w B m d ys) :
    Calls Try.prog 5 #[.slice A n c, .slice B m d] w fun e w' => e = .returned (.bool true) ∧ Below w.heap.size w w' := by
  have hn := h.short
  have hm := k.short
  by_cases h1 : (decide ((1048576 : Int) < n) || decide ((1048576 : Int) < m)) = true
  · have H1 := Lib.hid h1
    clear h1
    go_enter Try.func5, Try.ntmps5
    go_wp2_with fail
    refine (b10Long_ok A n c B m d _ hn hm).mono ?_
    rintro e w1 ⟨rfl, rfl⟩
    rw [H1.out]
    go_wp2_with fail
    go_ret
    exact ⟨rfl, Below.refl _ _⟩
  have H1 : Hid ((decide ((1048576 : Int) < n) || decide ((1048576 : Int) < m)) = false) := by show _ = _; simpa using h1
  have HA := Lib.hid h
  have HB := Lib.hid k
  clear h1 h k
  go_enter Try.func5, Try.ntmps5
  go_wp2_with fail
  refine (b10Long_ok A n c B m d _ hn hm).mono ?_
  rintro e w1 ⟨rfl, rfl⟩
  rw [H1.out]
  go_wp2_with fail
  refine (b10Chain_any A n c zs _ HA.out).mono ?_
  rintro e w2 ⟨s, p, q, SA, sn, sc, PA, pn, pc, QA, qn, qc, rfl, h1, h2, hs, hp, hq, b2⟩
  have B2 := Lib.hid b2
  have OKu := (apps_ok h1.sok h1.pok.ok h1.fit).1
  have OKv := (apps_ok h2.sok h2.pok.ok h2.fit).1
  have RO := Lib.hid (cmp_ok h1.sok h1.pok.ok h2.pok.ok (s := s))
  have RL := Lib.hid (cmp_len h1.pok h2.pok)
  have RF := Lib.hid (cmp_fit h1.sok h1.pok.ok h2.pok.ok h1.fit h2.fit)
  have RA := Lib.hid (cmp_apps h1.sok h1.pok.ok h2.pok.ok h1.fit h2.fit)
  have RD := Lib.hid (cmp_diff h1.sok h1.pok.ok h2.pok.ok h1.fit h2.fit)
  have MT : Hid (∀ id a b, edo p id = some a → edo q id = some b → a.new = b.old) := Lib.hid fun id a b => fit_meet h1.sok h1.pok.ok h1.fit h2.fit
  have S2 := Lib.hid (hs.ars' h1.sok)
  have P2 := Lib.hid (hp.eds h1.pok.ok.ok)
  have Q2 := Lib.hid (hq.eds h2.pok.ok.ok)
  have H1 := Lib.hid h1
  have H2 := Lib.hid h2
  have OU := Lib.hid OKu
  have OV := Lib.hid OKv
  have UL := Lib.hid h1.room
  have VL := Lib.hid h2.room
  clear b2 h1 h2 hs hp hq OKu OKv
  go_wp2_with fail
  refine (apply_ok SA sn sc s PA pn pc p _ S2.out P2.out H1.out.sok H1.out.len H1.out.pok.ok H1.out.pok.len H1.out.fit H1.out.room).mono ?_
  rintro e w3 ⟨UA, un, uc, rfl, hu, b3⟩
  have B3 := Lib.hid (bel_trans B2.out b3)
  have S3 := Lib.hid (S2.out.below b3)
  have P3 := Lib.hid (P2.out.below b3)
  have Q3 := Lib.hid (Q2.out.below b3)
  have U3 := Lib.hid (hu.ars' OU.out)
  clear hu b3 S2 P2 Q2 B2
  go_wp2_with fail
  refine (apply_ok UA un uc (apps s p) QA qn qc q _ U3.out Q3.out OU.out UL.out H2.out.pok.ok H2.out.pok.len H2.out.fit H2.out.room).mono ?_
  rintro e w4 ⟨VA, vn, vc, rfl, hv, b4⟩
  have B4 := Lib.hid (bel_trans B3.out b4)
  have S4 := Lib.hid (S3.out.below b4)
  have P4 := Lib.hid (P3.out.below b4)
  have Q4 := Lib.hid (Q3.out.below b4)
  have V4 := Lib.hid (hv.ars' OV.out)
  clear hv b4 S3 P3 Q3 B3 U3
  go_wp2_with fail
  refine (compose_ok PA pn pc p QA qn qc q _ P4.out Q4.out H1.out.pok.ok H1.out.pok.len H2.out.pok.ok H2.out.pok.len MT RL).mono ?_
  rintro e w5 ⟨RA', rn, rc, rfl, hr, b5⟩
  have B5 := Lib.hid (bel_trans B4.out b5)
  have S5 := Lib.hid (S4.out.below b5)
  have V5 := Lib.hid (V4.out.below b5)
  have R5 := Lib.hid (hr.eds RO.out.ok)
  clear hr b5 S4 P4 Q4 B4 V4
  go_wp2_with fail
  refine (apply_ok SA sn sc s RA' rn rc _ _ S5.out R5.out H1.out.sok H1.out.len RO.out RL.out RF.out (by rw [RA.out]; exact VL.out)).mono ?_
  rintro e w6 ⟨WA, wn, wc, rfl, hw, b6⟩
  rw [RA.out] at hw
  have B6 := Lib.hid (bel_trans B5.out b6)
  have S6 := Lib.hid (S5.out.below b6)
  have V6 := Lib.hid (V5.out.below b6)
  have R6 := Lib.hid (R5.out.below b6)
  have W6 := Lib.hid (hw.ars' OV.out)
  clear hw b6 S5 V5 R5 B5
  go_wp2_with fail
  refine (diff_ok SA sn sc s VA vn vc _ _ S6.out V6.out H1.out.sok H1.out.len OV.out VL.out).mono ?_
  rintro e w7 ⟨DA, dn, dc, rfl, hd, b7⟩
  rw [RD.out] at hd
  have B7 := Lib.hid (bel_trans B6.out b7)
  have V7 := Lib.hid (V6.out.below b7)
  have R7 := Lib.hid (R6.out.below b7)
  have W7 := Lib.hid (W6.out.below b7)
  have D7 := Lib.hid (hd.eds RO.out.ok)
  have HD := hd.len
  have HR := R7.out.len
  obtain rfl : rn = dn := by omega
  clear hd b7 S6 V6 R6 W6 B6 HD HR
  have C1 := Lib.hid (fun W hW => b10Articles_ok VA vn vc (apps (apps s p) q) WA wn wc (apps (apps s p) q) W (V7.out.below hW) (W7.out.below hW))
  have C2 := Lib.hid (fun W hW => b10Edits_eq RA' rn rc DA dc _ W (R7.out.below hW) (D7.out.below hW))
  go_wp2_with fail
  refine (C1.out _ (Below.refl _ _)).mono ?_
  rintro e w8 ⟨r, rfl, hr, b8⟩
  obtain rfl : r = true := hr.2 (by simp)
  have B8 := Lib.hid (bel_trans B7.out b8)
  have b8' := Lib.hid b8
  clear b8 hr
  go_wp2_with fail
  refine (C2.out _ b8'.out).mono ?_
  rintro e w9 ⟨rfl, b9⟩
  have B9 := Lib.hid (bel_trans B8.out b9)
  clear b9
  go_wp2_with fail
  go_ret
  exact ⟨rfl, B9.out⟩
set_option maxHeartbeats 4000000 in
theorem fnPatched_walk (w : World) (A : Option Addr) (n c : Nat) (zs : List Int) (h : Ints .u8 w A n c zs) (B : Option Addr) (m d : Nat) (ys : List Int) (k : Ints .u8 w B m d ys) :
    Calls Try.prog 6 #[.slice A n c, .slice B m d] w fun e w' => e = .returned (.bool true) ∧ Below w.heap.size w w' := by
  have hn := h.short
  have hm := k.short
  by_cases h1 : (decide ((1048576 : Int) < n) || decide ((1048576 : Int) < m)) = true
  · have H1 := Lib.hid h1
    clear h1
    go_enter Try.func6, Try.ntmps6
    go_wp2_with fail
    refine (b10Long_ok A n c B m d _ hn hm).mono ?_
    rintro e w1 ⟨rfl, rfl⟩
    rw [H1.out]
    go_wp2_with fail
    go_ret
    exact ⟨rfl, Below.refl _ _⟩
  have H1 : Hid ((decide ((1048576 : Int) < n) || decide ((1048576 : Int) < m)) = false) := by show _ = _; simpa using h1
  have HA := Lib.hid h
  have HB := Lib.hid k
  clear h1 h k
  go_enter Try.func6, Try.ntmps6
  go_wp2_with fail
  refine (b10Long_ok A n c B m d _ hn hm).mono ?_
  rintro e w1 ⟨rfl, rfl⟩
  rw [H1.out]
  go_wp2_with fail
  refine (b10Statute_any A n c zs _ HA.out).mono ?_
  rintro e w2 ⟨s, p, SA, sn, sc, PA, pn, pc, QA, qn, qc, rfl, h1, hs, hp, b2⟩
  have B2 := Lib.hid b2
  have OU := Lib.hid (apps_ok h1.sok h1.pok.ok h1.fit).1
  have IO := Lib.hid (inv_ok h1.pok.ok)
  have IL := Lib.hid (show (invL p).length ≤ 16 by rw [inv_len h1.pok.ok]; exact h1.pok.len)
  have IF := Lib.hid (inv_fit h1.sok h1.pok.ok h1.fit)
  have IB := Lib.hid (inv_back h1.sok h1.pok.ok h1.fit)
  have II := Lib.hid (inv_inv h1.pok.ok)
  have CI := Lib.hid (cmp_inv h1.pok.ok)
  have DI := Lib.hid (diff_apps h1.sok h1.pok.ok h1.fit)
  have NE := Lib.hid (fun hne => apps_ne h1.sok h1.pok.ok h1.fit hne)
  have MT : Hid (∀ id a b, edo p id = some a → edo (invL p) id = some b → a.new = b.old) := Lib.hid fun id a b => fit_meet h1.sok h1.pok.ok h1.fit (inv_fit h1.sok h1.pok.ok h1.fit)
  have S2 := Lib.hid (hs.ars' h1.sok)
  have P2 := Lib.hid (hp.eds h1.pok.ok.ok)
  have H1 := Lib.hid h1
  have UL := Lib.hid h1.room
  clear b2 h1 hs hp
  go_wp2_with fail
  refine (apply_ok SA sn sc s PA pn pc p _ S2.out P2.out H1.out.sok H1.out.len H1.out.pok.ok H1.out.pok.len H1.out.fit H1.out.room).mono ?_
  rintro e w3 ⟨UA, un, uc, rfl, hu, b3⟩
  have B3 := Lib.hid (bel_trans B2.out b3)
  have S3 := Lib.hid (S2.out.below b3)
  have P3 := Lib.hid (P2.out.below b3)
  have U3 := Lib.hid (hu.ars' OU.out)
  clear hu b3 S2 P2 B2
  go_wp2_with fail
  refine (inverse_ok PA pn pc p _ P3.out H1.out.pok.ok H1.out.pok.len).mono ?_
  rintro e w4 ⟨VA, vn, vc, rfl, hv, b4⟩
  have B4 := Lib.hid (bel_trans B3.out b4)
  have S4 := Lib.hid (S3.out.below b4)
  have P4 := Lib.hid (P3.out.below b4)
  have U4 := Lib.hid (U3.out.below b4)
  have V4 := Lib.hid (hv.eds IO.out.ok)
  clear hv b4 S3 P3 B3 U3
  go_wp2_with fail
  refine (apply_ok UA un uc _ VA vn vc _ _ U4.out V4.out OU.out UL.out IO.out IL.out IF.out (by rw [IB.out]; exact H1.out.len)).mono ?_
  rintro e w5 ⟨KA, kn, kc, rfl, hk, b5⟩
  rw [IB.out] at hk
  have B5 := Lib.hid (bel_trans B4.out b5)
  have S5 := Lib.hid (S4.out.below b5)
  have P5 := Lib.hid (P4.out.below b5)
  have U5 := Lib.hid (U4.out.below b5)
  have V5 := Lib.hid (V4.out.below b5)
  have K5 := Lib.hid (hk.ars' H1.out.sok)
  clear hk b5 S4 P4 B4 U4 V4
  go_wp2_with fail
  refine (diff_ok SA sn sc s UA un uc _ _ S5.out U5.out H1.out.sok H1.out.len OU.out UL.out).mono ?_
  rintro e w6 ⟨DA, dn, dc, rfl, hd, b6⟩
  rw [DI.out] at hd
  have B6 := Lib.hid (bel_trans B5.out b6)
  have S6 := Lib.hid (S5.out.below b6)
  have P6 := Lib.hid (P5.out.below b6)
  have U6 := Lib.hid (U5.out.below b6)
  have V6 := Lib.hid (V5.out.below b6)
  have K6 := Lib.hid (K5.out.below b6)
  have HD := hd.len
  have D6 := Lib.hid (hd.eds H1.out.pok.ok.ok)
  have HP := P6.out.len
  obtain rfl : pn = dn := by omega
  clear hd b6 S5 P5 B5 U5 V5 K5 HD HP
  go_wp2_with fail
  refine (compose_ok PA pn pc p VA vn vc _ _ P6.out V6.out H1.out.pok.ok H1.out.pok.len IO.out IL.out MT (Lib.hid (by rw [CI.out]; exact Nat.zero_le _))).mono ?_
  rintro e w7 ⟨NA, nn, nc, rfl, hn, b7⟩
  rw [CI.out] at hn
  obtain rfl : 0 = nn := hn.len
  have B7 := Lib.hid (bel_trans B6.out b7)
  have S7 := Lib.hid (S6.out.below b7)
  have P7 := Lib.hid (P6.out.below b7)
  have U7 := Lib.hid (U6.out.below b7)
  have V7 := Lib.hid (V6.out.below b7)
  have K7 := Lib.hid (K6.out.below b7)
  have D7 := Lib.hid (D6.out.below b7)
  clear hn b7 S6 P6 B6 U6 V6 K6 D6
  go_wp2_with fail
  refine (inverse_ok VA vn vc _ _ V7.out IO.out IL.out).mono ?_
  rintro e w8 ⟨GA, gn, gc, rfl, hg, b8⟩
  rw [II.out] at hg
  have B8 := Lib.hid (bel_trans B7.out b8)
  have S8 := Lib.hid (S7.out.below b8)
  have P8 := Lib.hid (P7.out.below b8)
  have U8 := Lib.hid (U7.out.below b8)
  have K8 := Lib.hid (K7.out.below b8)
  have D8 := Lib.hid (D7.out.below b8)
  have HG := hg.len
  have HP := P8.out.len
  have G8 := Lib.hid (hg.eds H1.out.pok.ok.ok)
  obtain rfl : pn = gn := by omega
  have HP := Lib.hid HP
  clear hg b8 S7 P7 B7 U7 V7 K7 D7 HG
  have C1 := Lib.hid (fun W hW => b10Articles_ok KA kn kc s SA sn sc s W (K8.out.below hW) (S8.out.below hW))
  have C2 := Lib.hid (fun W hW => b10Edits_eq DA pn dc PA pc _ W (D8.out.below hW) (P8.out.below hW))
  have C3 := Lib.hid (fun W hW => b10Edits_eq GA pn gc PA pc _ W (G8.out.below hW) (P8.out.below hW))
  have C4 := Lib.hid (fun W hW => b10Articles_ok SA sn sc s UA un uc (apps s p) W (S8.out.below hW) (U8.out.below hW))
  go_wp2_with fail
  refine (C1.out _ (Below.refl _ _)).mono ?_
  rintro e w9 ⟨r, rfl, hr, b9⟩
  obtain rfl : r = true := hr.2 (by simp)
  have B9 := Lib.hid b9
  clear b9 hr
  go_wp2_with fail
  refine (C2.out _ B9.out).mono ?_
  rintro e w10 ⟨rfl, b10⟩
  replace B9 := Lib.hid (bel_trans B9.out b10)
  clear b10
  go_wp2_with fail
  refine (C3.out _ B9.out).mono ?_
  rintro e w11 ⟨rfl, b11⟩
  replace B9 := Lib.hid (bel_trans B9.out b11)
  clear b11
  by_cases hp0 : pn = 0
  · subst hp0
    go_wp2_with fail
    go_ret
    exact ⟨rfl, bel_trans B8.out B9.out⟩
  · have dp := decide_eq_false (show ¬ (pn : Int) = 0 by omega)
    have dp2 : ((pn : Int) == 0) = false := by rw [beq_eq_false_iff_ne]; omega
    go_wp2_with fail
    refine (C4.out _ B9.out).mono ?_
    rintro e w12 ⟨r, rfl, hr, b12⟩
    have hrf : r = false := by
      cases r
      · rfl
      · exact absurd (hr.1 rfl) (NE.out (by intro hp; have := HP.out; rw [hp] at this; exact hp0 this.symm))
    subst hrf
    replace B9 := Lib.hid (bel_trans B9.out b12)
    clear b12 hr
    go_wp2_with fail
    go_ret
    exact ⟨rfl, bel_trans B8.out B9.out⟩
end Go.Proofs.Ytcoladhppbknnaa
