/- The order of equal shares, walked. -/
import Derived.Test.YtiodbjfchfmlcaaBgt
namespace Go.Proofs.Ytiodbjfchfmlcaa
set_option linter.unusedVariables false
set_option linter.unusedSimpArgs false
set_option maxRecDepth 100000
open Go.RowKit Go.Deep
theorem eq_put {t g : Nat} {wo W : World} {u0 u1 : Value} (v0 v1 : Value) (h : BO t W g u0 u1) (hg : wo.grownBy W (some g)) : BO t ((W.setCell ⟨g, 0, none⟩ v0).setCell ⟨g, 1, none⟩ v1).drew g v0 v1 ∧ wo.grownBy ((W.setCell ⟨g, 0, none⟩ v0).setCell ⟨g, 1, none⟩ v1).drew (some g) := by
  obtain ⟨p1, g1⟩ := h.set0 v0
  obtain ⟨p2, g2⟩ := p1.set1 v1
  exact ⟨p2, gr_belS (grown_trans hg (grown_trans g1 g2)) ⟨rfl, rfl, rfl, Nat.le_refl _, fun _ _ => rfl⟩⟩
theorem nodup_bdE : ∀ (n : Nat) (l : List Nat), l.Nodup → (∀ x ∈ l, x < n) → l.length ≤ n
  | 0, l, _, h => by
    cases l with
    | nil => exact Nat.le_refl _
    | cons a l => exact absurd (h a (List.mem_cons_self ..)) (by omega)
  | n + 1, l, nd, h => by
    have h1 := nodup_bdE n (l.erase n) (nd.erase n) (fun x hx => by
      have h2 := h x (List.mem_of_mem_erase hx)
      have h3 : x ≠ n := fun e => by subst e; exact (List.Nodup.mem_erase_iff nd).1 hx |>.1 rfl
      omega)
    have h4 := List.length_erase (a := n) (l := l)
    split at h4 <;> omega
/-- What an order keeps while it grows. -/
structure EqK (e : El) (L : List Nat) : Prop where
  nd : L.Nodup
  lt : ∀ x ∈ L, x < e.cs.length
  st : ∃ S, bgt e L = some S
theorem EqK.len {e : El} {L : List Nat} (h : EqK e L) (ok : EOk' e) : L.length ≤ e.cs.length ∧ L.length ≤ 6 := by
  have := nodup_bdE _ _ h.nd h.lt
  have := ok.cs1
  omega
theorem best_ok {e : El} (ok : EOk' e) {L : List Nat} {S : Int × List Int} (hl : ∀ x ∈ L, x < e.cs.length) (hS : bgt e L = some S) {k : Nat} (hk : k ≤ e.cs.length) {b : Nat} {r : Int} {m : Nat} (h : bestS e.cs e.ap S L k = some (b, r, m)) : BestOk e.cs e.ap S L k b r m := by
  have st := bgt_ok ok hl hS
  exact best_some (fun x r m hx hp => (price_some st ok hx hp).1) hk h
theorem EqR.keep {e : El} (ok : EOk' e) {L : List Nat} (h : EqR e L) : EqK e L := by
  induction h with
  | nil => exact ⟨List.nodup_nil, by simp, ⟨_, rfl⟩⟩
  | @snoc L S b r m h hS hb ih =>
    have B := best_ok ok ih.lt hS (Nat.le_refl _) hb
    refine ⟨?_, fun x hx => ?_, ?_⟩
    · rw [List.nodup_append]
      exact ⟨ih.nd, by simp, fun a ha c hc e => by rw [List.mem_singleton] at hc; subst hc; subst e; exact B.new ha⟩
    · rcases List.mem_append.1 hx with hx | hx
      · exact ih.lt x hx
      · rw [List.mem_singleton] at hx; rw [hx]; exact B.lt
    · refine ⟨(S.1 * (m : Int), leftP e.ap b r m S.2), ?_⟩
      unfold bgt
      rw [bgtF_snoc b hS]
      unfold buyS
      rw [B.pr]
theorem best_skip {cs : List Int} {ap : List (List Int)} {S : Int × List Int} {L : List Nat} {k : Nat} (h : priceS cs ap S k = none) : bestS cs ap S L (k + 1) = bestS cs ap S L k := by
  show (match priceS cs ap S k with | none => bestS cs ap S L k | some (r, m) => _) = _
  rw [h]
theorem best_in {cs : List Int} {ap : List (List Int)} {S : Int × List Int} {L : List Nat} {k : Nat} {r : Int} {m : Nat} (h : priceS cs ap S k = some (r, m)) (hk : k ∈ L) : bestS cs ap S L (k + 1) = bestS cs ap S L k := by
  conv => lhs; unfold bestS
  rw [h]
  simp only [hk, if_true]
theorem best_first {cs : List Int} {ap : List (List Int)} {S : Int × List Int} {L : List Nat} {k : Nat} {r : Int} {m : Nat} (h : priceS cs ap S k = some (r, m)) (hk : k ∉ L) (hb : bestS cs ap S L k = none) : bestS cs ap S L (k + 1) = some (k, r, m) := by
  conv => lhs; unfold bestS
  rw [h]
  simp only [hk, if_false, hb]
theorem best_less {cs : List Int} {ap : List (List Int)} {S : Int × List Int} {L : List Nat} {k b : Nat} {r rb : Int} {m mb : Nat} (h : priceS cs ap S k = some (r, m)) (hk : k ∉ L) (hb : bestS cs ap S L k = some (b, rb, mb)) (hl : r * mb < rb * m) : bestS cs ap S L (k + 1) = some (k, r, m) := by
  conv => lhs; unfold bestS
  rw [h]
  simp only [hk, if_false, hb, hl, if_true]
theorem best_more {cs : List Int} {ap : List (List Int)} {S : Int × List Int} {L : List Nat} {k b : Nat} {r rb : Int} {m mb : Nat} (h : priceS cs ap S k = some (r, m)) (hk : k ∉ L) (hb : bestS cs ap S L k = some (b, rb, mb)) (hl : ¬ r * mb < rb * m) : bestS cs ap S L (k + 1) = some (b, rb, mb) := by
  conv => lhs; unfold bestS
  rw [h]
  simp only [hk, if_false, hb, hl]
def bsI : Option (Nat × Int × Nat) → Int
  | none => -1
  | some (b, _, _) => b
set_option maxHeartbeats 8000000 in
theorem equal_ok (CA : Option Addr) (m cc : Nat) (AA : Option Addr) (n ac : Nat) (e : El) (w : World) (h : ElW w CA m cc AA n ac e) (ok : EOk' e) :
    Calls Try.prog 25 #[.agg #[.int .i64 e.mon, .slice CA m cc, .slice AA n ac]] w fun r w' => (∃ L O oc, r = .returned (.slice O (L : List Nat).length oc) ∧ EqFin e L ∧ OwnI w' w.heap.size O L.length oc (zns L)) ∧ Below w.heap.size w w' := by
  have hm := h.cl
  have hn := h.al
  have h6 := ok.cs1
  have a6 := ok.ap1
  have n6 : n ≤ 6 := by omega
  have m6 : m ≤ 6 := by omega
  have OK := Lib.hid ok
  have b0 := bel_alloc w (.cells #[.int .i64 e.mon, .slice CA m cc, .slice AA n ac] 27)
  have bf := bel_alloc (w.alloc (.cells #[.int .i64 e.mon, .slice CA m cc, .slice AA n ac] 27)) (.cells #[] 2)
  have CE0 := (Cs.new w [.int .i64 e.mon, .slice CA m cc, .slice AA n ac] 27).below bf
  have FL := ownI_lit (w.alloc (.cells #[.int .i64 e.mon, .slice CA m cc, .slice AA n ac] 27))
  simp only [List.toArray] at CE0
  rw [show (w.alloc (.cells #[.int .i64 e.mon, .slice CA m cc, .slice AA n ac] 27)).heap.size = w.heap.size + 1 by simp] at FL
  have CE1 := Lib.hid CE0
  have O1 := Lib.hid FL
  have B1 := Lib.hid (bel_trans b0 bf)
  have H0 := Lib.hid h
  clear h ok b0 bf CE0 FL
  go_enter Try.func25, Try.ntmps25
  go_upto_region 2 with fail
  obtain ⟨ge, hge⟩ : ∃ z, w.heap.size = z := ⟨_, rfl⟩
  obtain ⟨w1, hw1⟩ : ∃ z, (w.alloc (.cells #[.int .i64 e.mon, .slice CA m cc, .slice AA n ac] 27)).alloc (.cells #[] 2) = z := ⟨_, rfl⟩
  have HGE := Lib.hid hge
  rw [hw1] at CE1 B1 O1
  rw [hge] at CE1 O1
  rw [hw1]
  rw [hge]
  have LW1 : ge + 1 < w1.heap.size := (O1.out.block (ge + 1) rfl).2
  clear hw1 hge
  have c0 := CE1.out.cell 0 rfl
  have c1 := CE1.out.cell 1 rfl
  have c2 := CE1.out.cell 2 rfl
  have YC := Lib.hid (fun W (hW : Below (ge + 1) w1 W) => (show W.cell? ⟨ge, 0, none⟩ = some (.int .i64 e.mon) ∧ W.cell? ⟨ge, 1, none⟩ = some (.slice CA m cc) ∧ W.cell? ⟨ge, 2, none⟩ = some (.slice AA n ac) from
    ⟨(hW.cell (p := ⟨ge, 0, none⟩) (by show ge < ge + 1; omega)).trans c0, (hW.cell (p := ⟨ge, 1, none⟩) (by show ge < ge + 1; omega)).trans c1, (hW.cell (p := ⟨ge, 2, none⟩) (by show ge < ge + 1; omega)).trans c2⟩))
  clear c0 c1 c2 CE1
  go_wp2_with fail
  go_loopw [3] (fun s3 wr => ∃ (L : List Nat) (O : Option Addr) (oc : Nat), s3 = .slice O L.length oc ∧ EqR e L ∧ OwnI wr (ge + 1) O L.length oc (zns L) ∧ Below (ge + 1) w1 wr ∧ Below w.heap.size w wr) (fun s3 _ => 7 - (match s3 with | .slice _ n _ => n | _ => 0))
  case atStart => exact ⟨[], _, 0, rfl, .nil, O1.out, Below.refl _ _, B1.out⟩
  case round =>
    obtain ⟨L, O, oc, rfl, hr, ho, hb, hbw⟩ := hrel
    have ER := Lib.hid hr
    have EK := Lib.hid (hr.keep OK.out)
    have OL := Lib.hid ho
    have BI := Lib.hid hb
    have BW := Lib.hid hbw
    obtain ⟨⟨D, P⟩, hS⟩ := EK.out.st
    have HS := Lib.hid hS
    have LL := EK.out.len OK.out
    have hbz : w1.heap.size ≤ wr.heap.size := hb.size
    have gz : ge + 1 ≤ wr.heap.size := by omega
    have ST := Lib.hid (bgt_ok OK.out EK.out.lt hS)
    obtain ⟨y0, y1, y2⟩ := YC.out wr hb
    have BG := Lib.hid (bought_ok CA m cc AA n ac e L O oc D P wr (H0.out.below hbw) OK.out (fun x hx => by rw [← hm]; exact EK.out.lt x hx) LL.2 ho.ints hS)
    clear hr ho hb hbw hS O1
    go_wp2_with fail
    refine BG.out.mono ?_
    rintro _ w2 ⟨⟨g, lc, Q, kq, dq, rfl, hf⟩, b2⟩
    have F2 := Lib.hid hf
    have O2 := Lib.hid (OL.out.below b2)
    have BI2 := Lib.hid (bel_trans' BI.out b2 gz)
    have BW2 := Lib.hid (bel_trans BW.out b2)
    have z2 := b2.size
    clear hf b2 OL BI BW y0 y1 y2 BG
    have LV := Lib.hid (BO.new 32 w2 (.int .i64 0) (.int .i64 0))
    have GR0 := Lib.hid (show w2.grownBy (w2.alloc (.cells #[.int .i64 0, .int .i64 0] 32)) (some w2.heap.size) from World.grownBy_alloc _ _ _)
    have y1 := (YC.out _ (bel_trans' BI2.out (bel_alloc w2 (.cells #[.int .i64 0, .int .i64 0] 32)) (by omega))).2.1
    go_wp2_with fail
    obtain ⟨g8, hg8⟩ : ∃ z, w2.heap.size = z := ⟨_, rfl⟩
    have HG8 := Lib.hid hg8
    rw [hg8] at LV GR0
    rw [hg8]
    clear hg8 y1
    go_loopw [7, 24] (fun s7 t wr => ∃ (k : Nat) (N M : Int), k ≤ m ∧ t = .int .i64 k ∧ s7 = .int .i64 (bsI (bestS e.cs e.ap (D, P) L k)) ∧ BO 32 wr g8 (.int .i64 N) (.int .i64 M) ∧ (∀ b r mb, bestS e.cs e.ap (D, P) L k = some (b, r, mb) → N = redN r (D * mb) ∧ M = redD r (D * mb)) ∧ w2.grownBy wr (some g8)) (fun _ t _ => m - (intOf t).toNat)
    case atStart => exact ⟨0, 0, 0, Nat.zero_le _, rfl, rfl, LV.out, (fun b r mb h => by cases h), GR0.out⟩
    case round =>
      obtain ⟨k, N, M, hk, rfl, rfl, hbo, hbv, hg⟩ := hrel
      have BV := Lib.hid hbv
      have HL := Lib.hid hbo
      have HG := Lib.hid hg
      have F3 := Lib.hid (F2.out.kept hg (ne_far (fun x e => (F2.out.block x e).2) (Nat.le_of_eq HG8.out)))
      have O3 := Lib.hid (O2.out.kept hg (ne_far (fun x e => (O2.out.block x e).2) (Nat.le_of_eq HG8.out)))
      have BI3 := Lib.hid (BI2.out.grown hg (by omega) (fun x hx => by injection hx with hx; have := HG8.out; omega))
      have BW3 := Lib.hid (BW2.out.grown hg BW2.out.size (fun x hx => by injection hx with hx; have := HG8.out; have := HGE.out; omega))
      have gz3 : ge + 1 ≤ wr.heap.size := by have := hg.size; omega
      have H3 := Lib.hid (H0.out.below BW3.out)
      have wz3 : w2.heap.size ≤ wr.heap.size := hg.size
      obtain ⟨y0, y1, y2⟩ := YC.out wr BI3.out
      clear hbo hbv hg LV GR0
      by_cases hlt : k < m
      · have d1 := decide_eq_true (show (k : Int) < (m : Int) by omega)
        have PR0 := price_ok CA m cc AA n ac e k (some ⟨g, 0, none⟩) lc D P L.length (costL e.cs L) wr H3.out OK.out hlt LL.2 ST.out F3.out.read
        cases hpr : priceS e.cs e.ap (D, P) k with
        | none =>
          rw [hpr, prV_none] at PR0
          have PR := Lib.hid PR0
          have BN := Lib.hid (best_skip (L := L) hpr)
          clear PR0 hpr
          go_wp2_with fail
          refine PR.out.mono ?_
          rintro _ w3 ⟨rfl, b3⟩
          have b4 := bel_trans b3 (bel_alloc w3 (.cells #[.int .i64 0, .int .i64 0] 32))
          have L4 := Lib.hid (HL.out.below b4)
          have G4 := Lib.hid (gr_belS HG.out b4)
          clear b3 b4 y0 y1 y2
          go_wp2_with fail
          go_roundw
          case rel => exact ⟨k + 1, N, M, by omega, by go_num, by rw [BN.out], L4.out, by rw [BN.out]; exact BV.out, G4.out⟩
          case measure => simp [intOf]; omega
        | some q =>
          obtain ⟨r, mq⟩ := q
          rw [hpr, prV_some] at PR0
          have PS := price_some ST.out OK.out (show k < e.cs.length by omega) hpr
          obtain ⟨q1, q6, r0, r1, _, _⟩ := PS
          have r1 : r ≤ 60 * D := r1
          have D1 : 1 ≤ D := ST.out.d1
          have D2 : D ≤ 279936 := Int.le_trans ST.out.d2 (six7 LL.2)
          have HPR := Lib.hid hpr
          obtain ⟨A0, hA0⟩ : ∃ z, redN r (D * (mq : Int)) = z := ⟨_, rfl⟩
          obtain ⟨A1, hA1⟩ : ∃ z, redD r (D * (mq : Int)) = z := ⟨_, rfl⟩
          rw [hA0, hA1] at PR0
          have HA := Lib.hid (And.intro hA0 hA1)
          have PR := Lib.hid PR0
          clear PR0 hpr hA0 hA1
          go_wp2_with fail
          refine PR.out.mono ?_
          rintro _ w3 ⟨rfl, b3⟩
          have ba := bel_alloc w3 (.cells #[.int .i64 A0, .int .i64 A1] 32)
          have b4 := bel_trans b3 ba
          have L4 := Lib.hid (HL.out.below b4)
          have G4 := Lib.hid (gr_belS HG.out b4)
          have E4 := Lib.hid (BO.new 32 w3 (.int .i64 A0) (.int .i64 A1))
          have O4 := Lib.hid (O3.out.below b4)
          have z3 := b3.size
          clear b3 b4 ba y0 y1 y2 PR HL HG O3
          go_upto_region 8 with fail
          obtain ⟨g10, hg10⟩ : ∃ z, w3.heap.size = z := ⟨_, rfl⟩
          obtain ⟨w4, hw4⟩ : ∃ z, w3.alloc (.cells #[.int .i64 A0, .int .i64 A1] 32) = z := ⟨_, rfl⟩
          rw [hw4, hg10] at E4
          rw [hw4] at L4 G4 O4
          rw [hw4, hg10]
          clear hw4 hg10
          have CO := Lib.hid (has_any O L.length oc (zns L) k w4 O4.out.ints)
          have z0 := E4.out.cells.1
          have z1 := E4.out.cells.2
          have x0 := L4.out.cells.1
          have x1 := L4.out.cells.2
          have f0 := L4.out.free 0
          have f1 := L4.out.free 1
          have ST1 := Lib.hid (eq_put (.int .i64 A0) (.int .i64 A1) L4.out G4.out)
          cases hc : L.contains k
          · have NC := Lib.hid (show k ∉ L from fun hh => by rw [List.contains_iff_mem.2 hh] at hc; cases hc)
            rw [zns_has, hc] at CO
            have nf : (!false) = true := rfl
            clear hc
            cases hbs : bestS e.cs e.ap (D, P) L k with
            | none =>
              rw [show bsI none = -1 from rfl]
              have BN := Lib.hid (best_first HPR.out NC.out hbs)
              clear hbs
              go_wp2_with fail
              refine CO.out.mono ?_
              rintro _ w5 ⟨rfl, rfl⟩
              go_wp2_with fail
              go_region
              go_wp2_with fail
              go_roundw
              case rel => exact ⟨k + 1, A0, A1, by omega, by go_num, by rw [BN.out]; rfl, ST1.out.1, (fun b' r' m' h => by rw [BN.out] at h; injection h with h; injection h with h1 h; injection h with h2 h3; subst h2; subst h3; exact ⟨HA.out.1.symm, HA.out.2.symm⟩), ST1.out.2⟩
              case measure => simp [intOf]; omega
            | some q =>
              obtain ⟨b, rb, mb⟩ := q
              rw [show bsI (some (b, rb, mb)) = (b : Int) from rfl]
              have db := decide_eq_false (show ¬ (b : Int) < 0 by omega)
              have bv := BV.out b rb mb hbs
              have BO' := best_ok OK.out EK.out.lt HS.out (show k ≤ e.cs.length by omega) hbs
              have PB := price_some ST.out OK.out (show b < e.cs.length by have := BO'.lt; omega) BO'.pr
              obtain ⟨b1, b6, rb0, rb1, _, _⟩ := PB
              have rb1 : rb ≤ 60 * D := rb1
              have Dm1 := Int.mul_pos (a := D) (b := (mq : Int)) (by omega) (by omega)
              have Dm2 := Int.mul_le_mul_of_nonneg_left (show (mq : Int) ≤ 6 by omega) (show 0 ≤ D by omega)
              have Db1 := Int.mul_pos (a := D) (b := (mb : Int)) (by omega) (by omega)
              have Db2 := Int.mul_le_mul_of_nonneg_left (show (mb : Int) ≤ 6 by omega) (show 0 ≤ D by omega)
              have CM0 := fun W => compare2_ok (x := r) (D := D * (mq : Int)) (y := rb) (E := D * (mb : Int)) ⟨by omega, by omega, by omega, by omega⟩ ⟨by omega, by omega, by omega, by omega⟩ W
              unfold FV at CM0
              rw [HA.out.1, HA.out.2, ← bv.1, ← bv.2] at CM0
              have E1 : r * (D * (mb : Int)) = r * mb * D := by ac_rfl
              have E2 : rb * (D * (mq : Int)) = rb * mq * D := by ac_rfl
              rw [E1, E2] at CM0
              by_cases hq : r * (mb : Int) < rb * (mq : Int)
              · have BN := Lib.hid (best_less HPR.out NC.out hbs hq)
                rw [show cmpI (r * (mb : Int) * D) (rb * (mq : Int) * D) = -1 from if_pos (Int.mul_lt_mul_of_pos_right hq (by omega))] at CM0
                have CM := Lib.hid CM0
                clear CM0 hbs hq E1 E2 bv BO' Dm1 Dm2 Db1 Db2 ST1
                go_wp2_with fail
                refine CO.out.mono ?_
                rintro _ w5 ⟨rfl, rfl⟩
                go_wp2_with fail
                refine (CM.out _).mono ?_
                rintro _ w6 ⟨rfl, b6⟩
                have V9 := E4.out.below b6
                have L9 := L4.out.below b6
                have ST9 := Lib.hid (eq_put (.int .i64 A0) (.int .i64 A1) L9 (gr_belS G4.out b6))
                have z0 := V9.cells.1
                have z1 := V9.cells.2
                have x0 := L9.cells.1
                have x1 := L9.cells.2
                have f0 := L9.free 0
                have f1 := L9.free 1
                clear b6 V9 L9
                go_wp2_with fail
                go_region
                go_wp2_with fail
                go_roundw
                case rel => exact ⟨k + 1, A0, A1, by omega, by go_num, by rw [BN.out]; rfl, ST9.out.1, (fun b' r' m' h => by rw [BN.out] at h; injection h with h; injection h with h1 h; injection h with h2 h3; subst h2; subst h3; exact ⟨HA.out.1.symm, HA.out.2.symm⟩), ST9.out.2⟩
                case measure => simp [intOf]; omega
              · have BN := Lib.hid (best_more HPR.out NC.out hbs hq)
                have HBS := Lib.hid hbs
                have hq2 : ¬ cmpI (r * (mb : Int) * D) (rb * (mq : Int) * D) < 0 := by
                  unfold cmpI
                  rw [if_neg (fun hh => hq (Int.lt_of_mul_lt_mul_right hh (by omega)))]
                  split <;> omega
                obtain ⟨q, hqq⟩ : ∃ q, cmpI (r * (mb : Int) * D) (rb * (mq : Int) * D) = q := ⟨_, rfl⟩
                rw [hqq] at CM0 hq2
                have dq := decide_eq_false hq2
                have CM := Lib.hid CM0
                clear CM0 hbs hq hqq E1 E2 bv BO' Dm1 Dm2 Db1 Db2 ST1
                go_wp2_with fail
                refine CO.out.mono ?_
                rintro _ w5 ⟨rfl, rfl⟩
                go_wp2_with fail
                refine (CM.out _).mono ?_
                rintro _ w6 ⟨rfl, b6⟩
                have L9 := Lib.hid (L4.out.below b6)
                have G9 := Lib.hid (gr_belS G4.out b6)
                clear b6
                go_wp2_with fail
                go_roundw
                case rel => exact ⟨k + 1, N, M, by omega, by go_num, by rw [BN.out]; rfl, L9.out, (fun b' r' m' h => BV.out b' r' m' (by rw [HBS.out]; rw [BN.out] at h; exact h)), G9.out⟩
                case measure => simp [intOf]; omega
          · have IN := List.contains_iff_mem.1 hc
            have BN := Lib.hid (best_in HPR.out IN)
            rw [zns_has, hc] at CO
            have nf : (!true) = false := rfl
            clear hc IN ST1
            go_wp2_with fail
            refine CO.out.mono ?_
            rintro _ w5 ⟨rfl, rfl⟩
            go_wp2_with fail
            go_roundw
            case rel => exact ⟨k + 1, N, M, by omega, by go_num, by rw [BN.out], L4.out, by rw [BN.out]; exact BV.out, G4.out⟩
            case measure => simp [intOf]; omega
      · obtain rfl : m = k := by omega
        have d1 := decide_eq_false (show ¬ (m : Int) < (m : Int) by omega)
        cases hbs : bestS e.cs e.ap (D, P) L m with
        | none =>
          rw [show bsI none = -1 from rfl]
          have FN := Lib.hid (show EqFin e L from ⟨ER.out, (D, P), HS.out, by rw [hm]; exact hbs⟩)
          have O9 := Lib.hid (O3.out.mono (b2 := w.heap.size) (by have := HGE.out; omega))
          clear hbs
          go_wp2_with fail
          go_ret
          exact ⟨⟨L, O, oc, rfl, FN.out, O9.out⟩, BW3.out⟩
        | some q =>
          obtain ⟨b, rb, mb⟩ := q
          rw [show bsI (some (b, rb, mb)) = (b : Int) from rfl]
          have db := decide_eq_false (show ¬ (b : Int) < 0 by omega)
          have BO' := best_ok OK.out EK.out.lt HS.out (show m ≤ e.cs.length by omega) hbs
          have bm := BO'.lt
          have NR := Lib.hid (show EqR e (L ++ [b]) from .snoc ER.out HS.out (by rw [hm]; exact hbs))
          have LN := Lib.hid (NR.out.keep OK.out |>.len OK.out)
          have E1 : L.length + 1 = (L ++ [b]).length := by simp
          have E1H := Lib.hid E1
          have LOW := Lib.hid (fun y (hy : (Value.slice O L.length oc).ownBlock = some y) => (show w.heap.size ≤ y from by have := (O3.out.block y hy).1; have := HGE.out; omega))
          clear hbs BO' E1
          go_wp2_with (at_builtin; refine app_int wr rfl _ _ rfl (ge + 1) O L.length oc _ rfl O3.out (b : Int) (by omega) (by omega) rfl (by omega) gz3 ?_; intro A' c' w4 p1 p2; have X1 := Lib.hid p1; have X2 := Lib.hid (BI3.out.grown p2 gz3 (fun y hy => (O3.out.block y hy).1)); have X3 := Lib.hid (BW3.out.grown p2 BW3.out.size LOW.out); clear p1 p2)
          rw [E1H.out]
          have X1' := X1.out
          rw [E1H.out, ← zns_snoc] at X1'
          have X1H := Lib.hid X1'
          clear X1'
          go_roundw
          case rel => exact ⟨L ++ [b], A', c', rfl, NR.out, X1H.out, X2.out, X3.out⟩
          case measure => have := LN.out; simp at this ⊢; omega
end Go.Proofs.Ytiodbjfchfmlcaa
