/- The purses behind an order, walked. -/
import Derived.Test.YtiodbjfchfmlcaaPay
namespace Go.Proofs.Ytiodbjfchfmlcaa
set_option linter.unusedVariables false
set_option linter.unusedSimpArgs false
set_option maxRecDepth 100000
open Go.RowKit Go.Deep
--GENBEG
--GENEND
theorem prV_some (D r : Int) (m : Nat) : prV D (some (r, m)) = .tuple #[.agg #[.int .i64 (redN r (D * m)), .int .i64 (redD r (D * m))], .bool true] := rfl
theorem prV_none (D : Int) : prV D none = .tuple #[.agg #[.int .i64 0, .int .i64 0], .bool false] := rfl
/-- The purses while they are being paid out of. -/
def midL (ap : List (List Int)) (x : Nat) (r : Int) (m : Nat) (P : List Int) (j : Nat) : List Int := (leftP ap x r m P).take j ++ (P.map fun p : Int => p * (m : Int)).drop j
theorem midL_zero (ap : List (List Int)) (x : Nat) (r : Int) (m : Nat) (P : List Int) : midL ap x r m P 0 = P.map fun p : Int => p * (m : Int) := by simp [midL]
theorem midL_all (ap : List (List Int)) (x : Nat) (r : Int) (m : Nat) (P : List Int) : midL ap x r m P P.length = leftP ap x r m P := by
  unfold midL
  rw [List.take_of_length_le (by rw [leftP_len]; exact Nat.le_refl _), List.drop_eq_nil_of_le (by simp), List.append_nil]
theorem midL_at {ap : List (List Int)} {x : Nat} {r : Int} {m : Nat} {P : List Int} {j : Nat} (hj : j < P.length) : (midL ap x r m P j)[j]? = some (P.getD j 0 * m) := by
  unfold midL
  have hl : ((leftP ap x r m P).take j).length = j := by rw [List.length_take, leftP_len]; omega
  rw [List.getElem?_append_right (by omega), hl, Nat.sub_self, List.getElem?_drop, Nat.add_zero, List.getElem?_map, List.getElem?_eq_getElem hj, List.getD_eq_getElem?_getD, List.getElem?_eq_getElem hj]
  rfl
theorem midL_step {ap : List (List Int)} {x : Nat} {r : Int} {m : Nat} {P : List Int} {j : Nat} (hj : j < P.length) :
    (midL ap x r m P j).set j (P.getD j 0 * m - (if sup1 ap (x : Int) j then min r (P.getD j 0 * m) else 0)) = midL ap x r m P (j + 1) := by
  unfold midL
  have hl : ((leftP ap x r m P).take j).length = j := by rw [List.length_take, leftP_len]; omega
  have hp := List.getElem?_eq_getElem hj
  have gd : P.getD j 0 = P[j] := by rw [List.getD_eq_getElem?_getD, hp]; rfl
  rw [List.set_append_right _ _ (by omega), hl, Nat.sub_self, List.take_add_one, leftP_at hp, gd]
  have hd : (P.map fun p : Int => p * (m : Int)).drop j = P[j] * m :: (P.map fun p : Int => p * (m : Int)).drop (j + 1) := by
    rw [List.drop_eq_getElem_cons (by simpa using hj), List.getElem_map]
  rw [hd]
  simp
theorem payK_at (ap : List (List Int)) (x : Nat) (r : Int) (m : Nat) (P : List Int) {n j : Nat} (hj : j < n) : (payK ap x r m P n)[j]? = some (if sup1 ap (x : Int) j then min r (P.getD j 0 * m) else 0) := by
  unfold payK
  simp [hj]
theorem info_frs : (Try.prog.info? 39).map (fun i => (i.zero, i.size, i.bytes)) = some (some (.slice none 0 0), 1, 24) := by kernel_rfl
theorem ownR_lit39 (w : World) : OwnR 39 1 (w.alloc (.cells #[] 39)) w.heap.size (some ⟨w.heap.size, 0, none⟩) 0 0 [] := ownR_lits (rs := []) w (by simp) (by unfold maxLen; simp)
theorem app_frs {ops : Array Oper} {rest : List Oper} {o : Oper} {a : Act} {Q : Exit → Act → World → Prop} (w : World) (hgd : o.guard = none) (s x : Operand)
    (ho : o.op = .call { callee := .builtin .append, args := #[s, x], argTypes := #[77, 77] }) (base : Nat)
    (A : Option Addr) (n c : Nat) (rs : List (List Value)) (hs : a.eval s = .slice A n c) (hown : OwnR 39 1 w base A n c rs) (B : Option Addr) (m d : Nat)
    (hx : a.eval x = .slice (some ⟨w.heap.size, 0, none⟩) 1 1) (hn : n ≤ 1048576) (hbase : base ≤ w.heap.size)
    (h : ∀ A' c' w1, OwnR 39 1 w1 base A' (n + 1) c' (rs ++ [[.slice B m d]]) → w.grownBy w1 (Value.slice A n c).ownBlock → wpList Try.prog ops Q rest (a.put o.dst (.slice A' (n + 1) c')) w1) :
    wpList Try.prog ops Q (o :: rest) a (w.alloc (.cells #[.slice B m d] 39)) := by
  obtain ⟨i0, hi, hz0, hz1, hz2⟩ := info_parts info_frs
  exact app_rec w hgd s x _ _ ho base i0 _ 1 24 Try.underlying77 hi hz0 hz1 hz2 rfl (by omega) A n c _ hs hown [.slice B m d] rfl (by intro u hu; simp at hu; subst hu; rfl) hx (by unfold maxLen; omega) (by omega) hbase (fun A' c' w1 p1 p2 _ => h A' c' w1 p1 p2)
set_option maxHeartbeats 8000000 in
theorem bought_ok (CA : Option Addr) (m cc : Nat) (AA : Option Addr) (n ac : Nat) (e : El) (L : List Nat) (OA : Option Addr) (oc : Nat) (D : Int) (P : List Int) (w : World) (h : ElW w CA m cc AA n ac e) (ok : EOk' e) (hL : ∀ x ∈ L, x < m) (hl : L.length ≤ 6) (ho : Ints .i64 w OA L.length oc (zns L)) (hb : bgt e L = some (D, P)) :
    Calls Try.prog 50 #[.agg #[.int .i64 e.mon, .slice CA m cc, .slice AA n ac], .slice OA L.length oc] w fun r w' => (∃ g c Q k d, r = .returned (.tuple #[.slice (some ⟨g, 0, none⟩) n c, .slice Q k d, .bool true]) ∧ FrsO w' w.heap.size (some ⟨g, 0, none⟩) n c D P) ∧ Below w.heap.size w w' := by
  have hm := h.cl
  have hn := h.al
  have h6 := ok.cs1
  have a6 := ok.ap1
  have n6 : n ≤ 6 := by omega
  have n1 : 1 ≤ n := by omega
  have m6 : m ≤ 6 := by omega
  have mon := ok.mon
  have OK := Lib.hid ok
  have HL := Lib.hid (fun x (hx : x ∈ L) => (show x < e.cs.length by rw [hm]; exact hL x hx))
  have SH0 := fun W => share_ok CA m cc AA n ac e.mon W mon.1 mon.2 n1 n6
  unfold FV at SH0
  obtain ⟨N0, hN0⟩ : ∃ z, redN e.mon (n : Int) = z := ⟨_, rfl⟩
  obtain ⟨M0, hM0⟩ : ∃ z, redD e.mon (n : Int) = z := ⟨_, rfl⟩
  rw [hN0, hM0] at SH0
  have SH := Lib.hid SH0
  have HNM := Lib.hid (And.intro hN0 hM0)
  have hb0 : bgtF e.cs e.ap ((n : Int), List.replicate n e.mon) L = some (D, P) := by
    unfold bgt start at hb
    rw [hn] at hb
    exact hb
  have HB := Lib.hid hb0
  have ST0 := Lib.hid (show StOk e 0 0 ((n : Int), List.replicate n e.mon) from by
    have := start_ok ok
    unfold start at this
    rwa [hn] at this)
  have b0 := bel_alloc w (.cells #[.int .i64 e.mon, .slice CA m cc, .slice AA n ac] 27)
  have bf := bel_alloc (w.alloc (.cells #[.int .i64 e.mon, .slice CA m cc, .slice AA n ac] 27)) (.cells #[] 32)
  have CE0 := (Cs.new w [.int .i64 e.mon, .slice CA m cc, .slice AA n ac] 27).below bf
  have FL := frsO_lit (w.alloc (.cells #[.int .i64 e.mon, .slice CA m cc, .slice AA n ac] 27)) (n : Int)
  have bl := bel_alloc ((w.alloc (.cells #[.int .i64 e.mon, .slice CA m cc, .slice AA n ac] 27)).alloc (.cells #[] 32)) (.cells #[] 39)
  have QL := ownR_lit39 ((w.alloc (.cells #[.int .i64 e.mon, .slice CA m cc, .slice AA n ac] 27)).alloc (.cells #[] 32))
  simp only [List.toArray] at CE0
  rw [show (w.alloc (.cells #[.int .i64 e.mon, .slice CA m cc, .slice AA n ac] 27)).heap.size = w.heap.size + 1 by simp] at FL
  rw [show ((w.alloc (.cells #[.int .i64 e.mon, .slice CA m cc, .slice AA n ac] 27)).alloc (.cells #[] 32)).heap.size = w.heap.size + 1 + 1 by simp] at QL
  have CE1 := Lib.hid (CE0.below bl)
  have F1 := Lib.hid (FL.below bl)
  have Q1 := Lib.hid (OwnR.mono (b2 := w.heap.size + 1) QL (by omega))
  have B1 := Lib.hid (bel_trans (bel_trans b0 bf) bl)
  have H0 := Lib.hid h
  have O0 := Lib.hid ho
  clear h ok hL ho hb hb0 b0 bf CE0 FL bl QL SH0 hN0 hM0
  go_enter Try.func50, Try.ntmps50
  go_upto_region 2 with fail
  obtain ⟨ge, hge⟩ : ∃ z, w.heap.size = z := ⟨_, rfl⟩
  obtain ⟨w1, hw1⟩ : ∃ z, ((w.alloc (.cells #[.int .i64 e.mon, .slice CA m cc, .slice AA n ac] 27)).alloc (.cells #[] 32)).alloc (.cells #[] 39) = z := ⟨_, rfl⟩
  have HGE := Lib.hid hge
  rw [hw1] at CE1 B1 F1 Q1
  rw [hge] at CE1 F1 Q1
  rw [hw1]
  rw [hge]
  have LW1 : ge + 1 + 1 < w1.heap.size := (Q1.out.block (ge + 1 + 1) rfl).2
  clear hw1 hge
  have c0 := CE1.out.cell 0 rfl
  have c1 := CE1.out.cell 1 rfl
  have c2 := CE1.out.cell 2 rfl
  have YC := Lib.hid (fun W (hW : Below (ge + 1) w1 W) => (show W.cell? ⟨ge, 0, none⟩ = some (.int .i64 e.mon) ∧ W.cell? ⟨ge, 1, none⟩ = some (.slice CA m cc) ∧ W.cell? ⟨ge, 2, none⟩ = some (.slice AA n ac) from
    ⟨(hW.cell (p := ⟨ge, 0, none⟩) (by show ge < ge + 1; omega)).trans c0, (hW.cell (p := ⟨ge, 1, none⟩) (by show ge < ge + 1; omega)).trans c1, (hW.cell (p := ⟨ge, 2, none⟩) (by show ge < ge + 1; omega)).trans c2⟩))
  clear c0 c1 CE1
  go_wp2_with fail
  go_loopw [7, 21] (fun s7 t wr => ∃ (i g lc : Nat), i ≤ n ∧ s7 = .slice (some ⟨g, 0, none⟩) i lc ∧ t = .int .i64 i ∧ FrsO wr (ge + 1) (some ⟨g, 0, none⟩) i lc (n : Int) (List.replicate i e.mon) ∧ OwnR 39 1 wr (ge + 1) (some ⟨ge + 1 + 1, 0, none⟩) 0 0 [] ∧ Below (ge + 1) w1 wr ∧ Below w.heap.size w wr) (fun _ t _ => n - (intOf t).toNat)
  case atStart => exact ⟨0, ge + 1, 0, Nat.zero_le _, rfl, rfl, F1.out, Q1.out, Below.refl _ _, B1.out⟩
  case round =>
    obtain ⟨i, g, lc, hi, rfl, rfl, hf, hq, hb, hbw⟩ := hrel
    have FI := Lib.hid hf
    have QI := Lib.hid hq
    have BI := Lib.hid hb
    have BW := Lib.hid hbw
    have hbz : w1.heap.size ≤ wr.heap.size := hb.size
    have gz2 : ge + 1 ≤ wr.heap.size := by omega
    obtain ⟨y0, y1, y2⟩ := YC.out wr hb
    clear hf hq hb hbw F1 Q1 c2
    by_cases hil : i < n
    · have d0 := decide_eq_true (show (i : Int) < (n : Int) by omega)
      go_wp2_with fail
      refine (SH.out _).mono ?_
      rintro _ w3 ⟨rfl, b3⟩
      have F3 := Lib.hid (FI.out.below b3)
      have Q3 := Lib.hid (QI.out.below b3)
      have BI3 := Lib.hid (bel_trans' BI.out b3 gz2)
      have BW3 := Lib.hid (bel_trans BW.out b3)
      have gz3 : ge + 1 ≤ w3.heap.size := by have := b3.size; omega
      have LOW := Lib.hid (fun y (hy : (Value.slice (some ⟨g, 0, none⟩) i lc).ownBlock = some y) => (show w.heap.size ≤ y from by have := (F3.out.block y hy).1; have := HGE.out; omega))
      clear b3 FI QI BI BW y0 y1 y2
      go_wp2_with (at_builtin; refine app_fr1 w3 rfl _ _ rfl (ge + 1) (some ⟨g, 0, none⟩) i lc (n : Int) _ rfl F3.out e.mon N0 M0 HNM.out.1 HNM.out.2 rfl (by omega) gz3 ?_; intro A2 c2 w4 p1 p2 p3; obtain ⟨g', rfl, _, _⟩ := OwnR.form p1 (by omega); have X1 := Lib.hid p1; have X2 := Lib.hid (BI3.out.grown p2 gz3 (fun y hy => (F3.out.block y hy).1)); have X3 := Lib.hid (BW3.out.grown p2 BW3.out.size LOW.out); have X4 := Lib.hid (OwnR.kept Q3.out p2 (own_ne Q3.out.1 F3.out.1 (by decide))); clear p1 p2 p3)
      go_roundw
      case rel => exact ⟨i + 1, g', c2, by omega, rfl, by go_num, by rw [List.replicate_succ']; exact X1.out, X4.out, X2.out, X3.out⟩
      case measure => simp [intOf]; omega
    · obtain rfl : n = i := by omega
      have d0 := decide_eq_false (show ¬ (n : Int) < (n : Int) by omega)
      go_wp2_with fail
      go_loopw [8, 31] (fun s8 t wr => ∃ (i : Nat) (Di : Int) (Pi : List Int) (ci : Int) (Q : Option Addr) (c8 : Nat) (rs : List (List Value)), i ≤ L.length ∧ s8 = .slice Q i c8 ∧ t = .int .i64 i ∧ FrsO wr (ge + 1) (some ⟨g, 0, none⟩) n lc Di Pi ∧ OwnR 39 1 wr (ge + 1) Q i c8 rs ∧ bgtF e.cs e.ap (Di, Pi) (L.drop i) = some (D, P) ∧ StOk e i ci (Di, Pi) ∧ Below (ge + 1) w1 wr ∧ Below w.heap.size w wr) (fun _ t _ => L.length - (intOf t).toNat)
      case atStart => exact ⟨0, (n : Int), _, 0, _, 0, [], Nat.zero_le _, rfl, rfl, FI.out, QI.out, HB.out, ST0.out, BI.out, BW.out⟩
      case round =>
        obtain ⟨i, Di, Pi, ci, Q, c8, rs, hi, rfl, rfl, hf, hq, hbt, hst, hb, hbw⟩ := hrel
        have FJ := Lib.hid hf
        have QJ := Lib.hid hq
        have HBT := Lib.hid hbt
        have ST := Lib.hid hst
        have BJ := Lib.hid hb
        have BX := Lib.hid hbw
        have hbz2 : w1.heap.size ≤ wr.heap.size := hb.size
        have gz4 : ge + 1 ≤ wr.heap.size := by omega
        have gI := (hf.block g rfl)
        obtain ⟨y0, y1, y2⟩ := YC.out wr hb
        clear hf hq hbt hst hb hbw FI QI BI BW
        by_cases hil : i < L.length
        · have d1 := decide_eq_true (show (i : Int) < (L.length : Int) by omega)
          obtain ⟨x, hx⟩ : ∃ x, L[i]? = some x := ⟨_, List.getElem?_eq_getElem hil⟩
          have xe := HL.out x (List.mem_of_getElem? hx)
          have xm : x < m := by omega
          have hdr : L.drop i = x :: L.drop (i + 1) := by
            obtain ⟨h1, h2⟩ := List.getElem?_eq_some_iff.1 hx
            rw [List.drop_eq_getElem_cons h1, h2]
          have hbt2 : (match buyS e.cs e.ap (Di, Pi) x with | none => none | some T => bgtF e.cs e.ap T (L.drop (i + 1))) = some (D, P) := by
            have := HBT.out
            rw [hdr] at this
            exact this
          obtain ⟨T, hby⟩ : ∃ T, buyS e.cs e.ap (Di, Pi) x = some T := by
            cases hby : buyS e.cs e.ap (Di, Pi) x with
            | none => rw [hby] at hbt2; cases hbt2
            | some T => exact ⟨T, rfl⟩
          rw [hby] at hbt2
          have STN := Lib.hid (buy_ok ST.out OK.out xe hby)
          obtain ⟨r, mm, hpr⟩ : ∃ r mm, priceS e.cs e.ap (Di, Pi) x = some (r, mm) := by
            unfold buyS at hby
            cases hpr : priceS e.cs e.ap (Di, Pi) x with
            | none => rw [hpr] at hby; cases hby
            | some q => exact ⟨q.1, q.2, rfl⟩
          obtain rfl : (Di * (mm : Int), leftP e.ap x r mm Pi) = T := by
            unfold buyS at hby
            rw [hpr] at hby
            injection hby
          have HBN := Lib.hid hbt2
          obtain ⟨m1', m6', r0, r1, _, _⟩ := price_some ST.out OK.out xe hpr
          have r1 : r ≤ 60 * Di := r1
          have D1 : 1 ≤ Di := ST.out.d1
          have D2 : Di ≤ 279936 := Int.le_trans ST.out.d2 (six7 (by omega))
          have PLn : Pi.length = n := by rw [← hn]; exact ST.out.len
          have PBv : ∀ v, 0 ≤ Pi.getD v 0 ∧ Pi.getD v 0 ≤ 360 * Di := fun v => by
            have h1 := ST.out.at OK.out v
            have h2 : e.mon * Di ≤ 360 * Di := Int.mul_le_mul_of_nonneg_right mon.2 (by omega)
            exact ⟨h1.1, Int.le_trans h1.2 h2⟩
          have PR0 := price_ok CA m cc AA n ac e x (some ⟨g, 0, none⟩) lc Di Pi i ci wr (H0.out.below BX.out) OK.out xm (by omega) ST.out FJ.out.read
          rw [hpr, prV_some] at PR0
          have PD0 := fun W hR hP => paid_ok e.mon CA m cc AA n ac e.ap x r mm Di Pi (some ⟨g, 0, none⟩) lc W hR n6 PLn PBv D1 D2 m1' m6' r0 r1 hP
          unfold FV at PD0
          have Dm1 := Int.mul_pos (a := Di) (b := (mm : Int)) (by omega) (by omega)
          have Dm2 := Int.mul_le_mul_of_nonneg_left (show (mm : Int) ≤ 6 by omega) (show 0 ≤ Di by omega)
          have SMP := Lib.hid (fun v => (show Sm (Pi.getD v 0 * mm) (Di * (mm : Int)) ∧ Sm (if sup1 e.ap (x : Int) v then min r (Pi.getD v 0 * mm) else 0) (Di * (mm : Int)) from by
            have := PBv v
            have a1 := Int.mul_nonneg this.1 (show 0 ≤ (mm : Int) by omega)
            have a2 := Int.mul_le_mul_of_nonneg_left (show (mm : Int) ≤ 6 by omega) this.1
            refine ⟨⟨by omega, by omega, by omega, by omega⟩, ?_⟩
            split
            · exact ⟨by omega, by omega, by omega, by omega⟩
            · exact ⟨by omega, by omega, by omega, by omega⟩))
          obtain ⟨A0, hA0⟩ : ∃ z, redN r (Di * (mm : Int)) = z := ⟨_, rfl⟩
          obtain ⟨A1, hA1⟩ : ∃ z, redD r (Di * (mm : Int)) = z := ⟨_, rfl⟩
          rw [hA0, hA1] at PR0 PD0
          have PR := Lib.hid PR0
          have PD := Lib.hid PD0
          have HPN := Lib.hid PLn
          obtain ⟨bO, oO, rfl, hbO, cO0⟩ := ints_get' O0.out (zns_at hx)
          have cO := (BX.out.cell (p := ⟨bO, oO + i, none⟩) hbO).trans cO0
          have i0 : (0 : Int) ≤ (i : Int) := by omega
          have i1 : (i : Int) < (L.length : Int) := by omega
          clear hx hdr hbt2 hby hpr PR0 PD0 PLn PBv Dm1 Dm2 hA0 hA1 cO0 HBT ST
          go_wp2_with fail
          refine PR.out.mono ?_
          rintro _ w2 ⟨rfl, b2⟩
          have ba := bel_alloc w2 (.cells #[.int .i64 A0, .int .i64 A1] 32)
          have b3 := bel_trans b2 ba
          have E3 := Lib.hid (BO.new 32 w2 (.int .i64 A0) (.int .i64 A1))
          have F3 := Lib.hid (FJ.out.below b3)
          have Q3 := Lib.hid (QJ.out.below b3)
          have BJ3 := Lib.hid (bel_trans' BJ.out b3 gz4)
          have BX3 := Lib.hid (bel_trans BX.out b3)
          have z3 := b3.size
          clear ba b2 b3 FJ QJ BJ BX y0 y1 y2 cO PR
          go_upto_region 10 with fail
          obtain ⟨g11, hg11⟩ : ∃ z, w2.heap.size = z := ⟨_, rfl⟩
          obtain ⟨w3, hw3⟩ : ∃ z, w2.alloc (.cells #[.int .i64 A0, .int .i64 A1] 32) = z := ⟨_, rfl⟩
          rw [hw3, hg11] at E3
          rw [hw3] at F3 Q3 BJ3 BX3 z3
          rw [hw3, hg11]
          clear hw3 hg11
          obtain ⟨y0, y1, y2⟩ := YC.out w3 BJ3.out
          have e0 := E3.out.cells.1
          have e1 := E3.out.cells.2
          have gz5 : ge + 1 ≤ w3.heap.size := by omega
          have PDc := Lib.hid (PD.out w3 (H0.out.below BX3.out).a F3.out.read)
          clear PD
          go_wp2_with fail
          refine PDc.out.mono ?_
          rintro _ w4 ⟨gq, lq, rfl, hq4, b4⟩
          have F4 := Lib.hid (F3.out.below b4)
          have O4 := Lib.hid hq4
          have Q4 := Lib.hid (Q3.out.below b4)
          have BJ4 := Lib.hid (bel_trans' BJ3.out b4 gz5)
          have BX4 := Lib.hid (bel_trans BX3.out b4)
          have gq3 : w3.heap.size ≤ gq := (hq4.block gq rfl).1
          have g3 : g < w3.heap.size := by omega
          have z4 := b4.size
          have MZ := Lib.hid (show FrsO w4 (ge + 1) (some ⟨g, 0, none⟩) n lc (Di * (mm : Int)) (midL e.ap x r mm Pi 0) from by
            rw [midL_zero]
            exact F4.out.scale D1 (by omega))
          have QG := Lib.hid (own_ne Q4.out.1 MZ.out.1 (by decide))
          clear hq4 b4 F3 Q3 BJ3 BX3 y0 y1 y2 e0 e1 E3 PDc F4
          go_wp2_with fail
          go_loopw [51] (fun t wr => ∃ (j : Nat), j ≤ n ∧ t = .int .i64 j ∧ FrsO wr (ge + 1) (some ⟨g, 0, none⟩) n lc (Di * (mm : Int)) (midL e.ap x r mm Pi j) ∧ w4.grownBy wr (some g)) (fun t _ => n - (intOf t).toNat)
          case atStart => exact ⟨0, Nat.zero_le _, rfl, MZ.out, World.grownBy.refl _ _⟩
          case round =>
            obtain ⟨j, hj, rfl, hf, hg⟩ := hrel
            have FM := Lib.hid hf
            have GM := Lib.hid hg
            have OM := Lib.hid (O4.out.kept hg (.inr (by simp [Value.ownBlock]; omega)))
            have gM := (hf.block g rfl).2
            clear hf hg MZ
            by_cases hjn : j < n
            · have d2 := decide_eq_true (show (j : Int) < (n : Int) by omega)
              have pj := payK_at e.ap x r mm Pi hjn
              have mj := midL_at (ap := e.ap) (x := x) (r := r) (m := mm) (P := Pi) (j := j) (by rw [HPN.out]; exact hjn)
              obtain ⟨g', eg, _, _, cp0, cp1, _⟩ := OM.out.at pj
              simp only [Option.some.injEq, Addr.mk.injEq, and_true] at eg
              subst eg
              obtain ⟨g', eg, _, _, cm0, cm1, _⟩ := FM.out.at mj
              simp only [Option.some.injEq, Addr.mk.injEq, and_true] at eg
              subst eg
              have MI0 := fun W => minus_ok (SMP.out j).1 (SMP.out j).2 W
              obtain ⟨y, hy⟩ : ∃ z, (if sup1 e.ap (x : Int) j then min r (Pi.getD j 0 * mm) else 0) = z := ⟨_, rfl⟩
              have MS := Lib.hid (midL_step (ap := e.ap) (x := x) (r := r) (m := mm) (P := Pi) (j := j) (by rw [HPN.out]; exact hjn))
              rw [hy] at MI0 cp0 cp1 MS
              obtain ⟨X0, hX0⟩ : ∃ z, redN (Pi.getD j 0 * mm) (Di * (mm : Int)) = z := ⟨_, rfl⟩
              obtain ⟨X1, hX1⟩ : ∃ z, redD (Pi.getD j 0 * mm) (Di * (mm : Int)) = z := ⟨_, rfl⟩
              obtain ⟨Y0, hY0⟩ : ∃ z, redN y (Di * (mm : Int)) = z := ⟨_, rfl⟩
              obtain ⟨Y1, hY1⟩ : ∃ z, redD y (Di * (mm : Int)) = z := ⟨_, rfl⟩
              obtain ⟨Z0, hZ0⟩ : ∃ z, redN (Pi.getD j 0 * mm - y) (Di * (mm : Int)) = z := ⟨_, rfl⟩
              obtain ⟨Z1, hZ1⟩ : ∃ z, redD (Pi.getD j 0 * mm - y) (Di * (mm : Int)) = z := ⟨_, rfl⟩
              unfold FV at MI0
              rw [hX0, hX1, hY0, hY1, hZ0, hZ1] at MI0
              rw [hX0] at cm0
              rw [hX1] at cm1
              rw [hY0] at cp0
              rw [hY1] at cp1
              have MI := Lib.hid MI0
              have HZ := Lib.hid (And.intro hZ0 hZ1)
              have MJ := Lib.hid mj
              have j0 : (0 : Int) ≤ (j : Int) := by omega
              have j1 : (j : Int) < (n : Int) := by omega
              have ba := bel_alloc wr (.cells #[.int .i64 Y0, .int .i64 Y1] 32)
              have E15 := Lib.hid (BO.new 32 wr (.int .i64 Y0) (.int .i64 Y1))
              have F15 := Lib.hid (FM.out.below ba)
              have G15 := Lib.hid (gr_belS GM.out ba)
              have x0 := (ba.cell (p := ⟨g, j * 2, none⟩) gM).trans cm0
              have x1 := (ba.cell (p := ⟨g, j * 2 + 1, none⟩) gM).trans cm1
              clear hy hX0 hX1 hY0 hY1 hZ0 hZ1 MI0 pj mj cm0 cm1 ba FM GM OM
              go_upto_region 16 with fail
              obtain ⟨g15, hg15⟩ : ∃ z, wr.heap.size = z := ⟨_, rfl⟩
              obtain ⟨wq, hwq⟩ : ∃ z, wr.alloc (.cells #[.int .i64 Y0, .int .i64 Y1] 32) = z := ⟨_, rfl⟩
              rw [hwq, hg15] at E15
              rw [hwq] at F15 G15 x0 x1
              rw [hwq, hg15]
              rw [hg15] at gM
              clear hwq hg15 cp0 cp1
              obtain ⟨wo, rfl⟩ : ∃ z, z = wr := ⟨_, rfl⟩
              obtain ⟨wr, rfl⟩ : ∃ z, z = wq := ⟨_, rfl⟩
              have v1 := E15.out.cells.1
              have v2 := E15.out.cells.2
              have gW := (F15.out.block g rfl).2
              obtain ⟨gp, hgp⟩ : ∃ z, g = z := ⟨_, rfl⟩
              obtain ⟨cP, hcP⟩ : ∃ z, lc = z := ⟨_, rfl⟩
              have SS := Lib.hid (fun W (hW : Below wr.heap.size wr W) => (show Below wr.heap.size wr W ∧ W.cell? ⟨g, j * 2, none⟩ = some (.int .i64 X0) ∧ W.cell? ⟨g, j * 2 + 1, none⟩ = some (.int .i64 X1) ∧ W.cell? ⟨g15, 0, none⟩ = some (.int .i64 Y0) ∧ W.cell? ⟨g15, 1, none⟩ = some (.int .i64 Y1) from
                ⟨hW, (hW.cell (p := ⟨g, j * 2, none⟩) gW).trans x0, (hW.cell (p := ⟨g, j * 2 + 1, none⟩) gW).trans x1, (hW.cell (p := ⟨g15, 0, none⟩) E15.out.lt).trans v1, (hW.cell (p := ⟨g15, 1, none⟩) E15.out.lt).trans v2⟩))
              clear v1 v2 x0 x1 hgp hcP
              refine wp_region_noPanic ?_
              refine wp_region_R (inFirst (fun W => Below wr.heap.size wr W ∧ W.cell? ⟨g, j * 2, none⟩ = some (.int .i64 X0) ∧ W.cell? ⟨g, j * 2 + 1, none⟩ = some (.int .i64 X1) ∧ W.cell? ⟨g15, 0, none⟩ = some (.int .i64 Y0) ∧ W.cell? ⟨g15, 1, none⟩ = some (.int .i64 Y1)) 9) (by kernel_rfl) ?_
              have hS := SS.out wr.drew ⟨rfl, rfl, rfl, Nat.le_refl _, fun _ _ => rfl⟩
              obtain ⟨v0, hv0⟩ : ∃ x, wr.drew = x := ⟨_, rfl⟩
              rw [hv0] at hS
              rw [hv0]
              clear hv0
              have sv0 := hS.1.size
              refine anyR_take (i := 0) (.slice (some ⟨g, 0, none⟩) n lc) rfl (by kernel_rfl) (by kernel_rfl) (by kernel_rfl) (by kernel_rfl) (fun _ _ _ h => h) (by assumption) ⟨by rfl, ?_⟩ ?_
              · intro W hW
                go_simp
              try simp only [Act.put, List.setIfInBounds_toArray, List.set_cons_zero, List.set_cons_succ, List.getElem_toArray, List.getElem_cons_zero, List.getElem_cons_succ]
              refine anyR_take (i := 1) (.int .i64 (j : Nat)) rfl (by kernel_rfl) (by kernel_rfl) (by kernel_rfl) (by kernel_rfl) (fun _ _ _ h => h) (by assumption) ⟨by rfl, ?_⟩ ?_
              · intro W hW
                go_simp
              try simp only [Act.put, List.setIfInBounds_toArray, List.set_cons_zero, List.set_cons_succ, List.getElem_toArray, List.getElem_cons_zero, List.getElem_cons_succ]
              refine anyR_take (i := 2) (.slice (some ⟨g, 0, none⟩) n lc) rfl (by kernel_rfl) (by kernel_rfl) (by kernel_rfl) (by kernel_rfl) (fun _ _ _ h => h) (by assumption) ⟨by rfl, ?_⟩ ?_
              · intro W hW
                go_simp
              try simp only [Act.put, List.setIfInBounds_toArray, List.set_cons_zero, List.set_cons_succ, List.getElem_toArray, List.getElem_cons_zero, List.getElem_cons_succ]
              refine anyR_take (i := 3) (.int .i64 (j : Nat)) rfl (by kernel_rfl) (by kernel_rfl) (by kernel_rfl) (by kernel_rfl) (fun _ _ _ h => h) (by assumption) ⟨by rfl, ?_⟩ ?_
              · intro W hW
                go_simp
              try simp only [Act.put, List.setIfInBounds_toArray, List.set_cons_zero, List.set_cons_succ, List.getElem_toArray, List.getElem_cons_zero, List.getElem_cons_succ]
              refine anyR_take (i := 4) (.pointer (some ⟨g, j * 2, none⟩)) rfl (by kernel_rfl) (by kernel_rfl) (by kernel_rfl) (by kernel_rfl) (fun _ _ _ h => h) (by assumption) ⟨by rfl, ?_⟩ ?_
              · intro W hW
                go_simp
              try simp only [Act.put, List.setIfInBounds_toArray, List.set_cons_zero, List.set_cons_succ, List.getElem_toArray, List.getElem_cons_zero, List.getElem_cons_succ]
              refine anyR_take (i := 5) (.agg #[.int .i64 X0, .int .i64 X1]) rfl (by kernel_rfl) (by kernel_rfl) (by kernel_rfl) (by kernel_rfl) (fun _ _ _ h => h) (by assumption) ⟨by rfl, ?_⟩ ?_
              · intro W hW
                go_simp
              try simp only [Act.put, List.setIfInBounds_toArray, List.set_cons_zero, List.set_cons_succ, List.getElem_toArray, List.getElem_cons_zero, List.getElem_cons_succ]
              refine anyR_take (i := 6) (.agg #[.int .i64 Y0, .int .i64 Y1]) rfl (by kernel_rfl) (by kernel_rfl) (by kernel_rfl) (by kernel_rfl) (fun _ _ _ h => h) (by assumption) ⟨by rfl, ?_⟩ ?_
              · intro W hW
                go_simp
              try simp only [Act.put, List.setIfInBounds_toArray, List.set_cons_zero, List.set_cons_succ, List.getElem_toArray, List.getElem_cons_zero, List.getElem_cons_succ]
              refine anyR_one (i := 7) (by kernel_rfl) rfl ?_
              intro K hK
              go_simp
              go_at_call 40
              refine (MI.out _).mono ?_
              rintro _ w9 ⟨rfl, b9⟩
              have hT := SS.out w9 (bel_trans hS.1 b9)
              refine hK.out _ _ (fun _ => hT) ?_
              clear hS b9
              have hS := hT
              clear hT
              clear hK K
              try simp only [Act.put, List.setIfInBounds_toArray, List.set_cons_zero, List.set_cons_succ, List.getElem_toArray, List.getElem_cons_zero, List.getElem_cons_succ]
              refine anyR_take (i := 8) (.pointer (some ⟨g, j * 2, none⟩)) rfl (by kernel_rfl) (by kernel_rfl) (by kernel_rfl) (by kernel_rfl) (fun _ _ _ h => h) (by assumption) ⟨by rfl, ?_⟩ ?_
              · intro W hW
                go_simp
              try simp only [Act.put, List.setIfInBounds_toArray, List.set_cons_zero, List.set_cons_succ, List.getElem_toArray, List.getElem_cons_zero, List.getElem_cons_succ]
              have FV := Lib.hid (F15.out.below hS.1)
              have GV := Lib.hid (gr_belS G15.out hS.1)
              obtain ⟨g', eg, _, _, q0, q1, fz⟩ := FV.out.at MJ.out
              simp only [Option.some.injEq, Addr.mk.injEq, and_true] at eg
              subst eg
              have f0 := fz (j * 2)
              have f1 := fz (j * 2 + 1)
              have PT := Lib.hid (FV.out.put (t := Pi.getD j 0 * mm - y) MJ.out)
              rw [HZ.out.1, HZ.out.2, MS.out] at PT
              clear hS SS fz
              refine anyR_one (i := 9) (by kernel_rfl) rfl ?_
              intro K hK
              go_simp
              refine hK.out _ _ (fun h => absurd h (by decide)) ?_
              clear hK K
              try simp only [Act.put, List.setIfInBounds_toArray, List.set_cons_zero, List.set_cons_succ, List.getElem_toArray, List.getElem_cons_zero, List.getElem_cons_succ]
              refine anyR_done (by kernel_rfl) ?_ _
              refine NoPanic.normal ?_
              clear q0 q1 f0 f1
              go_wp2_with fail
              go_roundw
              case rel => exact ⟨j + 1, by omega, by go_num, PT.out.1, grown_trans GV.out PT.out.2⟩
              case measure => simp [intOf]; omega
            · obtain rfl : n = j := by omega
              have d2 := decide_eq_false (show ¬ (n : Int) < (n : Int) by omega)
              have FE := FM.out
              have ML := midL_all e.ap x r mm Pi
              rw [HPN.out] at ML
              rw [ML] at FE
              have F5 := Lib.hid FE
              have Q5 := Lib.hid (OwnR.kept Q4.out GM.out QG.out)
              have BJ5 := Lib.hid (BJ4.out.grown GM.out (by omega) (fun y hy => by injection hy with hy; omega))
              have BX5 := Lib.hid (BX4.out.grown GM.out BX4.out.size (fun y hy => by injection hy with hy; have := HGE.out; omega))
              have z5 := GM.out.size
              have gz6 : ge + 1 ≤ wr.heap.size := by omega
              have LOW := Lib.hid (fun y (hy : (Value.slice Q i c8).ownBlock = some y) => (show w.heap.size ≤ y from by have := (Q5.out.block y hy).1; have := HGE.out; omega))
              clear FE ML FM OM GM Q4 BJ4 BX4
              go_wp2_with (at_builtin; refine app_frs wr rfl _ _ rfl (ge + 1) Q i c8 rs rfl Q5.out _ _ _ rfl (by omega) gz6 ?_; intro A2 c2 w6 p1 p2; have X1 := Lib.hid p1; have X2 := Lib.hid (BJ5.out.grown p2 gz6 (fun y hy => (Q5.out.block y hy).1)); have X3 := Lib.hid (BX5.out.grown p2 BX5.out.size LOW.out); have X4 := Lib.hid (F5.out.kept p2 (own_ne F5.out.1 Q5.out.1 (by decide))); clear p1 p2)
              go_roundw
              case rel => exact ⟨i + 1, Di * (mm : Int), _, _, A2, c2, _, by omega, rfl, by go_num, X4.out, X1.out, HBN.out, STN.out, X2.out, X3.out⟩
              case measure => simp [intOf]; omega
        · obtain rfl : L.length = i := by omega
          have d1 := decide_eq_false (show ¬ (L.length : Int) < (L.length : Int) by omega)
          have EQ := HBT.out
          rw [List.drop_length] at EQ
          injection EQ with EQ
          injection EQ with e1 e2
          subst e1
          subst e2
          have FF := Lib.hid (OwnR.mono (b2 := w.heap.size) FJ.out (by have := HGE.out; omega))
          go_wp2_with fail
          exact bodyPost_ret (v := .tuple #[.slice (some ⟨g, 0, none⟩) n lc, .slice Q L.length c8, .bool true]) (by simp [results, Try.results50, go_sem]) rfl ⟨⟨g, lc, Q, L.length, c8, rfl, FF.out⟩, BX.out⟩
end Go.Proofs.Ytiodbjfchfmlcaa
