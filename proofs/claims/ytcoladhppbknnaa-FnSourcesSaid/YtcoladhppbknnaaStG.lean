/- B10Statute, B10Chain. -/
import Derived.Test.YtcoladhppbknnaaStF
namespace Go.Proofs.Ytcoladhppbknnaa
set_option linter.unusedVariables false
set_option linter.unusedSimpArgs false
set_option maxRecDepth 100000
open Go.RowKit Go.Deep
/-- A statute with a patch that fits it. -/
structure SP (t : List Ar) (p : List Ed) : Prop where
  sok : SOk t
  len : t.length ≤ 8
  pok : PD p
  fit : Fit t p
  room : (apps t p).length ≤ 8
theorem b10f_sp {t : List Ar} {p : List Ed} (ht : SOk t) (hl : t.length ≤ 8) (hp : PD p) : SP t (b10f t t.length p) :=
  ⟨ht, hl, ⟨hp.ok.sub (b10f_sub t p _), fun e he => hp.ids e ((b10f_sub t p _).mem he)⟩, b10f_fit t p _, b10f_len t p _ t hp.ok.ed (Nat.le_refl _) hl⟩
def GotS (w : World) (e : Ending) (w' : World) : Prop :=
  ∃ (t : List Ar) (p : List Ed) (A : Option Addr) (L c : Nat) (B : Option Addr) (M d : Nat) (C : Option Addr) (N x : Nat), e = .returned (.tuple #[.slice A L c, .slice B M d, .slice C N x]) ∧ SP t p ∧ ArsO w' w.heap.size A L c t ∧ EdsO w' w.heap.size B M d p ∧ Below w.heap.size w w'
set_option maxHeartbeats 4000000 in
theorem b10Statute_any (An : Option Addr) (nn cn : Nat) (bs : List Int) (w : World) (h : Ints .u8 w An nn cn bs) :
    Calls Try.prog 29 #[.slice An nn cn] w (GotS w) := by
  go_enter Try.func29, Try.ntmps29
  go_wp2_with fail
  refine (l00From_any An nn cn bs _ h).mono ?_
  rintro e w1 ⟨g, rfl, hg, hs, hb⟩
  have gl1 := hs.lt
  have sz1 := hb.size
  have B1 := Lib.hid hb
  clear hb h
  go_wp2_with fail
  refine (l07DrawOk_any g An nn cn bs 0 (by omega) w1 hs).mono ?_
  rintro e w2 ⟨t, A, L, c, k2, rfl, hsd, ht, hk2, hs2, hg2⟩
  have B2 := Lib.hid (B1.out.grown hg2 B1.out.size (fun r hr => by injection hr with hr; omega))
  have T2 := Lib.hid ht
  have SDt := Lib.hid hsd
  have sz2 := hg2.size
  clear hs hsd ht
  go_wp2_with fail
  refine (l07DrawFor_any g An nn cn bs k2 (by omega) w1.heap.size A L c t w2 hs2 T2.out SDt.out.ok gl1).mono ?_
  rintro e w3 ⟨p0, P0, L0, c0, k3, rfl, hpd, hp, ht3, hk3, hs3, hg3⟩
  have B3 := Lib.hid (B2.out.grown hg3 B2.out.size (fun r hr => by injection hr with hr; omega))
  have T3 := Lib.hid ht3
  have PDp := Lib.hid hpd
  have sz3 := hg3.size
  have FT := Lib.hid (b10Fit_ok A L c t P0 L0 c0 p0 w3 (T3.out.ars' SDt.out.ok) (hp.eds PDp.out.ok.ok) SDt.out.len PDp.out.len)
  clear hs2 hpd hp ht3 T2 hg2 hg3
  go_wp2_with fail
  refine FT.out.mono ?_
  rintro e w4 ⟨B, M, d, rfl, hf, b4⟩
  have HSP := Lib.hid (b10f_sp SDt.out.ok SDt.out.len PDp.out)
  obtain ⟨p, hp⟩ : ∃ x, b10f t t.length p0 = x := ⟨_, rfl⟩
  rw [hp] at hf HSP
  have B4 := Lib.hid (bel_trans B3.out b4)
  have T4 := Lib.hid (show ArsO w4 w1.heap.size A L c t from OwnR.below T3.out b4)
  have P4 := Lib.hid hf
  have S4 := Lib.hid (hs3.kept b4)
  have sz4 := b4.size
  clear hf b4 hs3 T3 FT hp PDp
  go_wp2_with fail
  refine (l07DrawFor_any g An nn cn bs k3 (by omega) w1.heap.size A L c t w4 S4.out T4.out SDt.out.ok gl1).mono ?_
  rintro e w5 ⟨q0, Q0, M0, d0, k5, rfl, hqd, hq, ht5, hk5, hs5, hg5⟩
  have B5 := Lib.hid (B4.out.grown hg5 B4.out.size (fun r hr => by injection hr with hr; omega))
  have T5 := Lib.hid ht5
  have P5 := Lib.hid (show EdsO w5 w3.heap.size B M d p from P4.out.kept hg5 (ne_lt' (fun x hx => (P4.out.block x hx).1) (by omega)))
  have QD := Lib.hid hqd
  have sz5 := hg5.size
  have FT := Lib.hid (b10Fit_ok A L c t Q0 M0 d0 q0 w5 (T5.out.ars' SDt.out.ok) (hq.eds QD.out.ok.ok) SDt.out.len QD.out.len)
  clear hqd hq ht5 T4 hg5 P4 S4
  go_wp2_with fail
  refine FT.out.mono ?_
  rintro e w6 ⟨C, N, x, rfl, hf, b6⟩
  have QSP := Lib.hid (b10f_sp SDt.out.ok SDt.out.len QD.out)
  obtain ⟨q, hq⟩ : ∃ x, b10f t t.length q0 = x := ⟨_, rfl⟩
  rw [hq] at hf QSP
  have B6 := Lib.hid (bel_trans B5.out b6)
  have T6 := Lib.hid (show ArsO w6 w1.heap.size A L c t from OwnR.below T5.out b6)
  have P6 := Lib.hid (show EdsO w6 w3.heap.size B M d p from OwnR.below P5.out b6)
  have Q6 := Lib.hid hf
  have S6 := Lib.hid (hs5.kept b6)
  have sz6 := b6.size
  clear hf b6 hs5 T5 P5 FT hq QD
  go_wp2_with fail
  refine (one_any 2 g An nn cn bs k5 _ S6.out (by omega) (by omega) (by omega)).mono ?_
  rintro e w7 ⟨q2, k7, rfl, k70, k71, hs7, hg7⟩
  have B7 := Lib.hid (B6.out.grown hg7 B6.out.size (fun r hr => by injection hr with hr; omega))
  have T7 := Lib.hid (show ArsO w7 w1.heap.size A L c t from T6.out.kept hg7 (ne_lt' (fun x hx => (T6.out.block x hx).1) gl1))
  have P7 := Lib.hid (show EdsO w7 w3.heap.size B M d p from P6.out.kept hg7 (ne_lt' (fun x hx => (P6.out.block x hx).1) (by omega)))
  have Q7 := Lib.hid (show EdsO w7 w5.heap.size C N x q from Q6.out.kept hg7 (ne_lt' (fun x hx => (Q6.out.block x hx).1) (by omega)))
  clear hs7 hg7 T6 P6 Q6 S6 B6 B5 B4 B3 B2
  have w3s : w.heap.size ≤ w3.heap.size := by omega
  cases q2
  · go_wp2_with fail
    exact bodyPost_ret (v := .tuple #[.slice A L c, .slice B M d, .slice C N x]) (by simp [results, Try.results29, go_sem]) rfl ⟨t, p, A, L, c, B, M, d, C, N, x, rfl, HSP.out, T7.out.mono sz1, P7.out.mono w3s, B7.out⟩
  · have ba := bel_alloc w7 (.cells #[] 74)
    have K8 := Lib.hid (edsO_lit w7)
    have hqn : q.length = N := Q7.out.len
    have N16 : N ≤ 16 := by have := QSP.out.pok.len; omega
    have ML := Lib.hid (show p.length = M from P7.out.len)
    have PE := Lib.hid (show Eds w7 B M d p from P7.out.eds HSP.out.pok.ok.ok)
    have QE := Lib.hid (show Eds w7 C N x q from Q7.out.eds QSP.out.pok.ok.ok)
    have BA := Lib.hid ba
    clear ba
    go_wp2_with fail
    go_loopw [9, 10] (fun s9 s10 wr => ∃ (j K : Nat) (O : Option Addr) (oc : Nat) (kl : List Ed), j ≤ N ∧ s9 = .slice O K oc ∧ s10 = .int .i64 j ∧ K ≤ j ∧ EdsO wr w7.heap.size O K oc kl ∧ Below w7.heap.size w7 wr) (fun _ t _ => N - (intOf t).toNat)
    case atStart => exact ⟨0, 0, _, 0, [], Nat.zero_le _, rfl, rfl, Nat.le_refl _, K8.out, BA.out⟩
    case round =>
      obtain ⟨j, K, O, oc, kl, hj, rfl, rfl, hKj, ho, hb⟩ := hrel
      have HO := Lib.hid ho
      have HB := Lib.hid hb
      clear ho hb K8 BA
      by_cases hlt : j < N
      · have d0' := decide_eq_true (show (j : Int) < (N : Int) by omega)
        have k0 : (0 : Int) ≤ (j : Int) := by omega
        have k1' : (j : Int) < (N : Int) := by omega
        obtain ⟨bq, oq, a, rfl, hbw, ha, hok, c0', c1, c2, c3⟩ := (QE.out.below HB.out).at hlt
        have EO := Lib.hid (l07EditOf_ok B M d p a.id wr (PE.out.below HB.out))
        obtain ⟨ev, hev⟩ : ∃ x, edoD p a.id = x := ⟨_, rfl⟩
        rw [hev] at EO
        clear hev
        go_wp2_with fail
        refine EO.out.mono ?_
        rintro e w8 ⟨rfl, b8⟩
        have b9 := bel_alloc w8 (.cells #[.int .i64 ev.kind, .int .i64 ev.id, .string ev.old, .string ev.new] 74)
        have CC := Cs.new w8 [.int .i64 ev.kind, .int .i64 ev.id, .string ev.old, .string ev.new] 74
        have y0 := CC.cell 0 rfl
        have y1 := CC.cell 1 rfl
        have y2 := CC.cell 2 rfl
        have y3 := CC.cell 3 rfl
        have bb := bel_trans b8 b9
        have B9 := Lib.hid (bel_trans HB.out bb)
        have O9 := Lib.hid (OwnR.below HO.out bb)
        have z0 := (bb.cell (p := ⟨bq, oq + j * 4, none⟩) hbw).trans c0'
        have z1 := (bb.cell (p := ⟨bq, oq + j * 4 + 1, none⟩) hbw).trans c1
        have z2 := (bb.cell (p := ⟨bq, oq + j * 4 + 2, none⟩) hbw).trans c2
        have z3 := (bb.cell (p := ⟨bq, oq + j * 4 + 3, none⟩) hbw).trans c3
        have bsz := B9.out.size
        clear b8 b9 bb CC EO c0' c1 c2 c3
        go_upto_region 11 with fail
        obtain ⟨w9, hw9⟩ : ∃ x, w8.alloc (.cells #[.int .i64 ev.kind, .int .i64 ev.id, .string ev.old, .string ev.new] 74) = x := ⟨_, rfl⟩
        rw [show [Value.int .i64 ev.kind, .int .i64 ev.id, .string ev.old, .string ev.new].toArray = #[.int .i64 ev.kind, .int .i64 ev.id, .string ev.old, .string ev.new] from rfl] at y0 y1 y2 y3
        rw [hw9] at B9 O9 y0 y1 y2 y3 z0 z1 z2 z3 bsz
        rw [hw9]
        clear hw9
        by_cases hk : ev.kind = 0
        · have dk : decide (ev.kind = 0) = true := decide_eq_true hk
          have dk2 : (ev.kind == 0) = true := by rw [beq_iff_eq]; exact hk
          clear hk
          go_wp2_with (at_builtin; refine app_ed1 w9 rfl _ _ rfl w7.heap.size O K oc kl rfl O9.out a rfl (by omega) bsz ?_; intro A' c' w10 p1 p2)
          go_roundw
          case rel => exact ⟨j + 1, K + 1, A', c', _, by omega, rfl, by go_num, by omega, p1, B9.out.grown p2 B9.out.size (fun x hx => (OwnR.block O9.out x hx).1)⟩
          case measure => simp [intOf]; omega
        · have dk : decide (ev.kind = 0) = false := decide_eq_false hk
          have dk2 : (ev.kind == 0) = false := by rw [beq_eq_false_iff_ne]; exact hk
          clear hk
          go_wp2_with (at_builtin; refine app_ed1 w9 rfl _ _ rfl w7.heap.size O K oc kl rfl O9.out ev rfl (by omega) bsz ?_; intro A' c' w10 p1 p2)
          go_roundw
          case rel => exact ⟨j + 1, K + 1, A', c', _, by omega, rfl, by go_num, by omega, p1, B9.out.grown p2 B9.out.size (fun x hx => (OwnR.block O9.out x hx).1)⟩
          case measure => simp [intOf]; omega
      · obtain rfl : N = j := by omega
        have d0' := decide_eq_false (show ¬ (N : Int) < (N : Int) by omega)
        have T9 := Lib.hid (show ArsO wr w1.heap.size A L c t from OwnR.below T7.out HB.out)
        have P9 := Lib.hid (show EdsO wr w3.heap.size B M d p from OwnR.below P7.out HB.out)
        have B9 := Lib.hid (bel_trans B7.out HB.out)
        go_wp2_with fail
        exact bodyPost_ret (v := .tuple #[.slice A L c, .slice B M d, .slice O K oc]) (by simp [results, Try.results29, go_sem]) rfl ⟨t, p, A, L, c, B, M, d, O, K, oc, rfl, HSP.out, T9.out.mono sz1, P9.out.mono w3s, B9.out⟩
def GotC (w : World) (e : Ending) (w' : World) : Prop :=
  ∃ (t : List Ar) (p q : List Ed) (A : Option Addr) (L c : Nat) (B : Option Addr) (M d : Nat) (C : Option Addr) (N x : Nat), e = .returned (.tuple #[.slice A L c, .slice B M d, .slice C N x]) ∧ SP t p ∧ SP (apps t p) q ∧ ArsO w' w.heap.size A L c t ∧ EdsO w' w.heap.size B M d p ∧ EdsO w' w.heap.size C N x q ∧ Below w.heap.size w w'
set_option maxHeartbeats 4000000 in
theorem b10Chain_any (An : Option Addr) (nn cn : Nat) (bs : List Int) (w : World) (h : Ints .u8 w An nn cn bs) :
    Calls Try.prog 23 #[.slice An nn cn] w (GotC w) := by
  go_enter Try.func23, Try.ntmps23
  go_wp2_with fail
  refine (l00From_any An nn cn bs _ h).mono ?_
  rintro e w1 ⟨g, rfl, hg, hs, hb⟩
  have gl1 := hs.lt
  have sz1 := hb.size
  have B1 := Lib.hid hb
  clear hb h
  go_wp2_with fail
  refine (l07DrawOk_any g An nn cn bs 0 (by omega) w1 hs).mono ?_
  rintro e w2 ⟨t, A, L, c, k2, rfl, hsd, ht, hk2, hs2, hg2⟩
  have B2 := Lib.hid (B1.out.grown hg2 B1.out.size (fun r hr => by injection hr with hr; omega))
  have T2 := Lib.hid ht
  have SDt := Lib.hid hsd
  have sz2 := hg2.size
  clear hs hsd ht
  go_wp2_with fail
  refine (l07DrawFor_any g An nn cn bs k2 (by omega) w1.heap.size A L c t w2 hs2 T2.out SDt.out.ok gl1).mono ?_
  rintro e w3 ⟨p0, P0, L0, c0, k3, rfl, hpd, hp, ht3, hk3, hs3, hg3⟩
  have B3 := Lib.hid (B2.out.grown hg3 B2.out.size (fun r hr => by injection hr with hr; omega))
  have T3 := Lib.hid ht3
  have PDp := Lib.hid hpd
  have sz3 := hg3.size
  have FT := Lib.hid (b10Fit_ok A L c t P0 L0 c0 p0 w3 (T3.out.ars' SDt.out.ok) (hp.eds PDp.out.ok.ok) SDt.out.len PDp.out.len)
  clear hs2 hpd hp ht3 T2 hg2 hg3
  go_wp2_with fail
  refine FT.out.mono ?_
  rintro e w4 ⟨B, M, d, rfl, hf, b4⟩
  have HSP := Lib.hid (b10f_sp SDt.out.ok SDt.out.len PDp.out)
  obtain ⟨p, hp⟩ : ∃ x, b10f t t.length p0 = x := ⟨_, rfl⟩
  rw [hp] at hf HSP
  have B4 := Lib.hid (bel_trans B3.out b4)
  have T4 := Lib.hid (show ArsO w4 w1.heap.size A L c t from OwnR.below T3.out b4)
  have P4 := Lib.hid hf
  have S4 := Lib.hid (hs3.kept b4)
  have sz4 := b4.size
  have AP := Lib.hid (l07Apply_ok A L c t B M d p w4 (T4.out.ars' SDt.out.ok) (P4.out.eds HSP.out.pok.ok.ok) HSP.out.sok HSP.out.pok.ok HSP.out.fit HSP.out.room)
  have UOK := Lib.hid (apps_ok HSP.out.sok HSP.out.pok.ok HSP.out.fit).1
  have UL := Lib.hid HSP.out.room
  obtain ⟨u, hu⟩ : ∃ x, apps t p = x := ⟨_, rfl⟩
  rw [hu] at AP UOK UL
  have HU := Lib.hid hu
  clear hf b4 hs3 T3 FT hp PDp hu
  go_wp2_with fail
  refine AP.out.mono ?_
  rintro e w5 ⟨U, ul, uc, rfl, hu5, b5⟩
  have B5 := Lib.hid (bel_trans B4.out b5)
  have T5 := Lib.hid (show ArsO w5 w1.heap.size A L c t from OwnR.below T4.out b5)
  have P5 := Lib.hid (show EdsO w5 w3.heap.size B M d p from OwnR.below P4.out b5)
  have U5 := Lib.hid hu5
  have S5 := Lib.hid (S4.out.kept b5)
  have sz5 := b5.size
  clear hu5 b5 T4 P4 S4 AP
  go_wp2_with fail
  refine (l07DrawFor_any g An nn cn bs k3 (by omega) w4.heap.size U ul uc u w5 S5.out U5.out UOK.out (by omega)).mono ?_
  rintro e w6 ⟨q0, Q0, M0, d0, k6, rfl, hqd, hq, hu6, hk6, hs6, hg6⟩
  have B6 := Lib.hid (B5.out.grown hg6 B5.out.size (fun r hr => by injection hr with hr; omega))
  have T6 := Lib.hid (show ArsO w6 w1.heap.size A L c t from T5.out.kept hg6 (ne_lt' (fun x hx => (T5.out.block x hx).1) gl1))
  have P6 := Lib.hid (show EdsO w6 w3.heap.size B M d p from P5.out.kept hg6 (ne_lt' (fun x hx => (P5.out.block x hx).1) (by omega)))
  have QD := Lib.hid hqd
  have sz6 := hg6.size
  have FT := Lib.hid (b10Fit_ok U ul uc u Q0 M0 d0 q0 w6 (hu6.ars' UOK.out) (hq.eds QD.out.ok.ok) UL.out QD.out.len)
  clear hqd hq hu6 T5 hg6 P5 S5 hs6
  go_wp2_with fail
  refine FT.out.mono ?_
  rintro e w7 ⟨C, N, x, rfl, hf, b7⟩
  have QSP := Lib.hid (b10f_sp UOK.out UL.out QD.out)
  obtain ⟨q, hq⟩ : ∃ x, b10f u u.length q0 = x := ⟨_, rfl⟩
  rw [hq] at hf QSP
  have B7 := Lib.hid (bel_trans B6.out b7)
  have T7 := Lib.hid (show ArsO w7 w1.heap.size A L c t from OwnR.below T6.out b7)
  have P7 := Lib.hid (show EdsO w7 w3.heap.size B M d p from OwnR.below P6.out b7)
  have Q7 := Lib.hid (hf.mono (show w.heap.size ≤ w6.heap.size by omega))
  clear hf b7 FT hq QD T6 P6
  have w3s : w.heap.size ≤ w3.heap.size := by omega
  go_wp2_with fail
  exact bodyPost_ret (v := .tuple #[.slice A L c, .slice B M d, .slice C N x]) (by simp [results, Try.results23, go_sem]) rfl ⟨t, p, q, A, L, c, B, M, d, C, N, x, rfl, HSP.out, by rw [HU.out]; exact QSP.out, T7.out.mono sz1, P7.out.mono w3s, Q7.out, B7.out⟩
end Go.Proofs.Ytcoladhppbknnaa
