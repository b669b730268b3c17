/- The search for a path, walked. -/
import Derived.Test.YtikcbconfinibaaRkOpt
import Derived.Test.YtikcbconfinibaaSp
import Derived.Test.YtikcbconfinibaaSetA
namespace Go.Proofs.Ytikcbconfinibaa
set_option linter.unusedVariables false
set_option linter.unusedSimpArgs false
set_option maxRecDepth 100000
open Go.RowKit Go.Deep
theorem index_any (A : Option Addr) (n c : Nat) (zs : List Int) (x : Int) (w : World) (h : Ints .i64 w A n c zs) :
    Calls Try.prog 37 #[.slice A n c, .int .i64 x] w fun e w' => ∃ r : Int, e = .returned (.int .i64 r) ∧ decide (0 ≤ r) = zs.any (· == x) ∧ w = w' := by
  have hm := h.short
  have hl := Lib.hid h.1
  go_enter Try.func37, Try.ntmps37
  go_wp2_with fail
  go_loop [8] (fun t => ∃ k : Nat, k ≤ n ∧ t = .int .i64 k ∧ Hid ((zs.take k).any (· == x) = false)) (fun t => n - (intOf t).toNat)
  case atStart => exact ⟨0, Nat.zero_le _, rfl, rfl⟩
  case round =>
    obtain ⟨k, hk, rfl, HA⟩ := hrel
    by_cases hlt : k < n
    · obtain ⟨b, off, z, rfl, hb, hcell, hz1, hz2, hz⟩ := h.at hlt
      have d0 := decide_eq_true (show (k : Int) < (n : Int) by omega)
      have k0 : (0 : Int) ≤ (k : Int) := by omega
      have k1 : (k : Int) < (n : Int) := by omega
      by_cases hzx : z = x
      · have hq : (z == x) = true := by simp [hzx]
        have R := Lib.hid (any_stop (p := (· == x)) hz.out hq)
        have e1 : (x == z) = true := by simp [hzx]
        clear hzx
        go_wp2_with fail
        go_ret
        exact ⟨k, rfl, by rw [R.out]; exact decide_eq_true (by omega), rfl⟩
      · have hq : (z == x) = false := by simpa using hzx
        have e1 : (x == z) = false := by simpa using fun e => hzx e.symm
        have R := Lib.hid (any_next (p := (· == x)) hz.out HA.out hq)
        clear hzx
        go_wp2_with fail
        go_round
        case rel => exact ⟨k + 1, by omega, by go_num, R.out⟩
        case measure => simp [intOf]; omega
    · obtain rfl : k = n := by omega
      have d0 := decide_eq_false (show ¬ (k : Int) < (k : Int) by omega)
      have R := Lib.hid (any_end (p := (· == x)) (by rw [hl.out]; omega) HA.out)
      go_wp2_with fail
      go_ret
      exact ⟨-1, rfl, by rw [R.out]; rfl, rfl⟩
theorem contains_any (A : Option Addr) (n c : Nat) (zs : List Int) (x : Int) (w : World) (h : Ints .i64 w A n c zs) :
    Calls Try.prog 42 #[.slice A n c, .int .i64 x] w fun e w' => e = .returned (.bool (zs.any (· == x))) ∧ w = w' := by
  go_enter Try.func42, Try.ntmps42
  go_wp2_with fail
  refine (index_any A n c zs x w h).mono ?_
  rintro e w1 ⟨r, rfl, hr, rfl⟩
  have R := Lib.hid hr
  by_cases h0 : 0 ≤ r
  · have d := decide_eq_true h0
    rw [d] at R
    clear hr h0
    go_wp2_with fail
    go_ret
    exact ⟨ret_bool R.out, rfl⟩
  · have d := decide_eq_false h0
    rw [d] at R
    clear hr h0
    go_wp2_with fail
    go_ret
    exact ⟨ret_bool R.out, rfl⟩
theorem zr_any (p : List Nat) (b : Nat) : (zr p).any (· == (b : Int)) = p.elem b := by
  rw [Bool.eq_iff_iff, List.any_eq_true, List.elem_iff]
  constructor
  · rintro ⟨z, hz, he⟩
    obtain ⟨x, hx, rfl⟩ := List.mem_map.1 hz
    have : (x : Int) = (b : Int) := by simpa using he
    obtain rfl : x = b := by omega
    exact hx
  · intro h
    exact ⟨(b : Int), List.mem_map.2 ⟨b, h, rfl⟩, by simp⟩
/-- What the search tells. -/
def Found (n : Nat) (E : Nat → Nat → Bool) (f t : Nat) (w : World) (e : Ending) (w' : World) : Prop :=
  ((∃ p A c, SP n E f p t ∧ e = .returned (.slice (some A) p.length c) ∧ Ints .i64 w' (some A) p.length c (zr p)) ∨ ((∀ p, ¬ SP n E f p t) ∧ e = .returned (.slice none 0 0))) ∧ Below w.heap.size w w'
set_option maxHeartbeats 4000000 in
theorem shortest_ok (n f t : Nat) (n6 : n ≤ 6) (hf : f < n) (ht : t < n) (hne : f ≠ t) (E : Nat → Nat → Bool) (g1 g2 : Addr) (w : World)
    (step : ∀ W, Below w.heap.size w W → ∀ a b, a < n → b < n → Calls Try.prog 47 #[.int .i64 a, .int .i64 b, .pointer (some g1), .pointer (some g2)] W fun e W' => e = .returned (.bool (E a b)) ∧ Below W.heap.size W W') :
    Calls Try.prog 46 #[.int .i64 n, .int .i64 f, .int .i64 t, .func (.func 47) #[] #[.pointer (some g1), .pointer (some g2)]] w (Found n E f t w) := by
  have ST := Lib.hid step
  have HNE := Lib.hid hne
  clear step hne
  go_enter Try.func46, Try.ntmps46
  go_wp2_with fail
  have H0 := Lib.hid (show Rws ((w.alloc (.cells #[.int .i64 f] 2)).alloc (.cells #[.slice (some ⟨w.heap.size, 0, none⟩) 1 1] 25)) (some ⟨w.heap.size + 1, 0, none⟩) 1 1 ((lvl n E f 0).map zr) from by
    refine ⟨rfl, Nat.le_refl _, by unfold maxLen; omega, fun _ => ⟨w.heap.size + 1, 0, rfl, by simp, fun j zs hz => ?_⟩⟩
    have ej : j = 0 := by have := (List.getElem?_eq_some_iff.1 hz).1; simp [lvl] at this; exact this
    subst ej
    have ez : zs = zr [f] := by simp [lvl] at hz; exact hz.symm
    subst ez
    have c0 := (Cs.new (w.alloc (.cells #[.int .i64 f] 2)) [.slice (some ⟨w.heap.size, 0, none⟩) 1 1] 25).cell 0 rfl
    have sA : (w.alloc (.cells #[.int .i64 f] 2)).heap.size = w.heap.size + 1 := by simp
    rw [sA] at c0
    have o0 : OwnI (w.alloc (.cells #[.int .i64 f] 2)) w.heap.size (some ⟨w.heap.size, 0, none⟩) 1 1 (zr [f]) := ownI_lits w [(f : Int)] (fun z hz => by simp at hz; subst hz; exact WalkArith.wf_i64 (by omega)) (by simp)
    exact ⟨_, 1, c0, o0.ints.below (bel_alloc _ _)⟩)
  have B0 := Lib.hid (bel_trans (bel_alloc w (.cells #[.int .i64 f] 2)) (bel_alloc (w.alloc (.cells #[.int .i64 f] 2)) (.cells #[.slice (some ⟨w.heap.size, 0, none⟩) 1 1] 25)))
  go_loopw [9, 19] (fun s q wr => ∃ (k : Nat) (A : Option Addr) (N c : Nat), k ≤ n ∧ s = .slice A N c ∧ q = .int .i64 k ∧ Rws wr A N c ((lvl n E f k).map zr) ∧ Hid (NoHit n E f t k) ∧ Below w.heap.size w wr) (fun _ t _ => n - (intOf t).toNat)
  case atStart => exact ⟨0, _, 1, 1, Nat.zero_le _, rfl, rfl, H0.out, fun j hj => absurd hj (by omega), B0.out⟩
  case round =>
    obtain ⟨k, A, N, c, hk, rfl, rfl, hW, HN, hB⟩ := hrel
    rename World => wk
    have WK := Lib.hid hW
    have BK := Lib.hid hB
    clear hW hB H0 B0
    by_cases hlt : k < n
    · have d0 := decide_eq_true (show (k : Int) < (n : Int) by omega)
      have hNl : N = (lvl n E f k).length := by have := WK.out.1; simpa using this.symm
      have hN : N ≤ 7776 := by rw [hNl]; exact lvl_le n6 (by omega)
      have LN := Lib.hid hNl
      have ol := Lib.hid (ownM_lit wk)
      have bl := Lib.hid (bel_alloc wk (.cells #[] 25))
      clear hNl
      go_wp2_with fail
      go_loopw [10, 24] (fun s q wr => ∃ (i : Nat) (A' : Option Addr) (M c' : Nat) (vs : List Value), i ≤ N ∧ s = .slice A' M c' ∧ q = .int .i64 i ∧ M ≤ 6 * i ∧ OwnM wr wk.heap.size A' M c' vs ((((lvl n E f k).take i).flatMap fun p => kids E p n).map zr) ∧ Hid (∀ p ∈ (lvl n E f k).take i, hit E t p = false) ∧ Below wk.heap.size wk wr) (fun _ t _ => N - (intOf t).toNat)
      case atStart => exact ⟨0, _, 0, 0, [], Nat.zero_le _, rfl, rfl, Nat.le_refl _, ol.out, fun p hp => by simp at hp, bl.out⟩
      case round =>
        obtain ⟨i, A', M, c', vs, hi, rfl, rfl, hM, hO, HH, hB⟩ := hrel
        rename World => wi
        have O2 := Lib.hid hO
        have B2 := Lib.hid hB
        clear hO hB ol bl
        by_cases hli : i < N
        · have d1 := decide_eq_true (show (i : Int) < (N : Int) by omega)
          have i0 : (0 : Int) ≤ (i : Int) := by omega
          have i1 : (i : Int) < (N : Int) := by omega
          obtain ⟨b, off, A1, m1, c1, zs, rfl, hbk, cR0, iR, hz⟩ := WK.out.at hli
          have cR : wi.cell? ⟨b, off + i, none⟩ = some (.slice A1 m1 c1) := (B2.out.cell (p := ⟨b, off + i, none⟩) hbk).trans cR0
          obtain ⟨p, hp, rfl⟩ := rows_at hz.out
          obtain ⟨pl, a, hs⟩ := lvl_sp k p (List.mem_of_getElem? hp)
          have e2 := iR.1
          rw [zr_len, pl] at e2
          subst e2
          have hla := hs.last
          rw [pl, Nat.add_sub_cancel] at hla
          obtain ⟨b1, off1, za, rfl, hb1, cA, _, _, hza⟩ := iR.at (j := k) (by omega)
          obtain rfl : za = (a : Int) := by have := hza.out; rw [zr_at hla] at this; injection this with this; exact this.symm
          have an : a < n := hs.lt hf a (List.mem_of_getElem? hla)
          have HP := Lib.hid hp
          have HPL := Lib.hid pl
          have SPP := Lib.hid hs
          have IR := Lib.hid iR
          have LD := Lib.hid hs.lastD
          have HCA := Lib.hid cA
          have HBL := Lib.hid hb1
          have wj : IntKind.i64.wrap (((k + 1 : Nat) : Int) - 1) = (k : Int) := by rw [show ((k + 1 : Nat) : Int) - 1 = (k : Int) by omega]; exact IntWalk.i64_in _ (by omega)
          have k0' : (0 : Int) ≤ (k : Int) := by omega
          have k1' : (k : Int) < ((k + 1 : Nat) : Int) := by omega
          have O2' := Lib.hid (show OwnM wi wk.heap.size A' M c' vs (((((lvl n E f k).take i).flatMap fun p => kids E p n) ++ kids E p 0).map zr) from by
            have e : kids E p 0 = [] := rfl
            rw [e, List.append_nil]; exact O2.out)
          clear hz hp hs iR pl hla cR0 cA O2 hza hb1
          go_wp2_with fail
          go_loopw [10, 29] (fun s q wr => ∃ (m : Nat) (A' : Option Addr) (M c' : Nat) (vs : List Value), m ≤ n ∧ s = .slice A' M c' ∧ q = .int .i64 m ∧ M ≤ 6 * i + m ∧ OwnM wr wk.heap.size A' M c' vs (((((lvl n E f k).take i).flatMap fun p => kids E p n) ++ kids E p m).map zr) ∧ Hid (t < m → hit E t p = false) ∧ Below wk.heap.size wk wr) (fun _ t _ => n - (intOf t).toNat)
          case atStart => exact ⟨0, A', M, c', vs, Nat.zero_le _, rfl, rfl, hM, O2'.out, fun h => absurd h (by omega), B2.out⟩
          case round =>
            clear O2' B2 hM cR
            obtain ⟨m, Ax, Mx, cx, vx, hm, rfl, rfl, hM, hO, HT, hB⟩ := hrel
            rename World => wq
            have O3 := Lib.hid hO
            have B3 := Lib.hid hB
            have sq := hB.size
            clear hO hB
            by_cases hlm : m < n
            · have d2 := decide_eq_true (show (m : Int) < (n : Int) by omega)
              have cA : wq.cell? ⟨b1, off1 + k, none⟩ = some (.int .i64 a) := by
                have := B3.out.cell (p := ⟨b1, off1 + k, none⟩) HBL.out
                exact this.trans HCA.out
              have I3 := Lib.hid (IR.out.below B3.out)
              obtain ⟨el, hel⟩ : ∃ v, p.elem m = v := ⟨_, rfl⟩
              obtain ⟨st, hst⟩ : ∃ v, E a m = v := ⟨_, rfl⟩
              have HEL := Lib.hid hel
              have HST := Lib.hid hst
              have CND := Lib.hid (show (!p.elem m && E (p.getLastD 0) m) = (!el && st) from by rw [LD.out, hel, hst])
              clear hel hst
              go_wp2_with fail
              refine (contains_any _ _ _ _ _ _ I3.out).mono ?_
              rintro e w1 ⟨rfl, rfl⟩
              rw [zr_any, HEL.out]
              cases el
              · have SC := Lib.hid (ST.out wq (bel_trans BK.out (show Below wk.heap.size wk wq from B3.out)) a m an hlm)
                rw [HST.out] at SC
                go_wp2_with fail
                refine SC.out.mono ?_
                rintro e w1 ⟨rfl, b1⟩
                cases st
                · have KN := Lib.hid (show kids E p (m + 1) = kids E p m from by rw [kids_next, CND.out]; rfl)
                  have HT2 := Lib.hid (show t < m + 1 → hit E t p = false from fun h => by
                    rcases Nat.lt_or_eq_of_le (Nat.le_of_lt_succ h) with h | rfl
                    · exact HT.out h
                    · exact CND.out)
                  have O4 := Lib.hid (O3.out.below b1)
                  have B4 := Lib.hid (bel_trans B3.out b1)
                  clear b1 cA O3 B3
                  go_wp2_with fail
                  go_roundw
                  case rel => exact ⟨m + 1, Ax, Mx, cx, vx, by omega, rfl, by go_num, by omega, by rw [KN.out]; exact O4.out, HT2.out, B4.out⟩
                  case measure => simp [intOf]; omega
                · have SNX := Lib.hid (SP.snoc SPP.out hlm (by have := HEL.out; simpa using this) HST.out)
                  have O4 := Lib.hid (O3.out.below b1)
                  have B4 := Lib.hid (bel_trans B3.out b1)
                  have I4 := Lib.hid (I3.out.below b1)
                  clear b1 cA O3 B3 I3
                  go_wp2_with fail
                  refine (clone64_any _ _ _ _ w1 I4.out (by omega)).mono ?_
                  rintro e w2 ⟨A2, c2, rfl, o2, b2⟩
                  have s2 := b2.size
                  have OW := Lib.hid o2
                  have O5 := Lib.hid (O4.out.below b2)
                  have B5 := Lib.hid (bel_trans B4.out b2)
                  have AP2 := Lib.hid (show ∀ v ∈ vx, ∀ g, v.ownBlock = some g → g < w1.heap.size from fun v hv g hg => (O4.out.blocks v hv g hg).2)
                  have sk5 := B5.out.size
                  have sk4 := B4.out.size
                  have Z1 := Lib.hid (show zr p ++ [(m : Int)] = zr (p ++ [m]) from by simp [zr])
                  have PL2 := Lib.hid (show (p ++ [m]).length = k + 1 + 1 from by rw [List.length_append, HPL.out]; rfl)
                  clear o2 b2 O4 B4
                  have AP1 := Lib.hid (fun (w3 : World) (A3 : Option Addr) (c3 : Nat) (h3 : OwnI w3 w1.heap.size A3 (k + 1 + 1) c3 (zr (p ++ [m]))) => (show ∀ v ∈ vx, Apart v (.slice A3 (k + 1 + 1) c3) from apart_new (base := 0) (fun v hv g hg => (AP2.out v hv g hg)) h3))
                  by_cases hmt : m = t
                  · subst hmt
                    have e1 : ((m : Int) == (m : Int)) = true := by simp
                    go_wp2_with (at_builtin; refine app_int w2 rfl _ _ rfl w1.heap.size A2 (k + 1) c2 (zr p) rfl OW.out (m : Int) (by omega) (by omega) rfl (by omega) s2 ?_; intro A3 c3 w3 p1 p2; have P1 := Lib.hid p1; have B6 := Lib.hid (B5.out.grown p2 sk5 (fun x hx => by have := (OW.out.block x hx).1; omega)); clear p1 p2)
                    go_ret
                    have P2 := P1.out
                    rw [Z1.out] at P2
                    obtain ⟨gq, rfl, _, _⟩ := P2.form (by omega)
                    exact ⟨.inl ⟨p ++ [m], ⟨gq, 0, none⟩, c3, SNX.out, by rw [PL2.out]; rfl, by rw [PL2.out]; exact P2.ints⟩, bel_trans BK.out B6.out⟩
                  · have e1 : ((m : Int) == (t : Int)) = false := by show decide _ = false; exact decide_eq_false (by omega)
                    have KN := Lib.hid (show kids E p (m + 1) = kids E p m ++ [p ++ [m]] from by rw [kids_next, CND.out]; rfl)
                    have HT2 := Lib.hid (show t < m + 1 → hit E t p = false from fun h => HT.out (by omega))
                    have O5K := Lib.hid (fun (w3 : World) (p2 : w2.grownBy w3 (Value.slice A2 (k + 1) c2).ownBlock) => O5.out.kept p2 (own_ne O5.out.outer OW.out.1 (by decide)) (apart_new (base := 0) (fun v hv g hg => (AP2.out v hv g hg)) OW.out))
                    clear hmt
                    go_wp2_with (at_builtin; first | (refine app_int w2 rfl _ _ rfl w1.heap.size A2 (k + 1) c2 (zr p) rfl OW.out (m : Int) (by omega) (by omega) rfl (by omega) s2 ?_; intro A3 c3 w3 p1 p2; have P1 := Lib.hid p1; have O6 := Lib.hid (O5K.out w3 p2); have B6 := Lib.hid (B5.out.grown p2 sk5 (fun x hx => by have := (OW.out.block x hx).1; omega)); rw [Z1.out] at P1; clear p1 p2) | (refine app_row w3 rfl _ _ rfl wk.heap.size Ax Mx cx vx _ rfl O6.out A3 (k + 1 + 1) c3 (zr (p ++ [m])) (P1.out.mono sk4) (AP1.out w3 A3 c3 P1.out) rfl (by omega) B6.out.size ?_; intro A4 c4 w4 q1 q2; have O7 := Lib.hid q1; have B7 := Lib.hid (B6.out.grown q2 B6.out.size (fun x hx => (O6.out.block x hx).1)); clear q1 q2))
                    go_roundw
                    case rel => exact ⟨m + 1, A4, Mx + 1, c4, _, by omega, rfl, by go_num, by omega, by rw [KN.out, ← List.append_assoc, List.map_append]; exact O7.out, HT2.out, B7.out⟩
                    case measure => simp [intOf]; omega
              · have KN := Lib.hid (show kids E p (m + 1) = kids E p m from by rw [kids_next, CND.out]; rfl)
                have HT2 := Lib.hid (show t < m + 1 → hit E t p = false from fun h => by
                  rcases Nat.lt_or_eq_of_le (Nat.le_of_lt_succ h) with h | rfl
                  · exact HT.out h
                  · exact CND.out)
                clear cA
                go_wp2_with fail
                go_roundw
                case rel => exact ⟨m + 1, Ax, Mx, cx, vx, by omega, rfl, by go_num, by omega, by rw [KN.out]; exact O3.out, HT2.out, B3.out⟩
                case measure => simp [intOf]; omega
            · obtain rfl : n = m := by omega
              have d2 := decide_eq_false (show ¬ (n : Int) < (n : Int) by omega)
              have EQ := Lib.hid (show (((lvl n E f k).take (i + 1)).flatMap fun p => kids E p n) = (((lvl n E f k).take i).flatMap fun p => kids E p n) ++ kids E p n from by
                rw [take_snoc' HP.out, List.flatMap_append]; simp)
              rw [← EQ.out] at O3
              have HH2 := Lib.hid (show ∀ q ∈ (lvl n E f k).take (i + 1), hit E t q = false from fun q hq => by
                rw [take_snoc' HP.out] at hq
                rcases List.mem_append.1 hq with hq | hq
                · exact HH.out q hq
                · simp at hq; subst hq; exact HT.out ht)
              go_wp2_with fail
              go_roundw
              case rel => exact ⟨i + 1, Ax, Mx, cx, vx, by omega, rfl, by go_num, by omega, O3.out, HH2.out, B3.out⟩
              case measure => simp [intOf]; omega
        · obtain rfl : N = i := by omega
          have d1 := decide_eq_false (show ¬ (N : Int) < (N : Int) by omega)
          have EQ := Lib.hid (show (lvl n E f k).take N = lvl n E f k from List.take_of_length_le (by have := LN.out; omega))
          rw [EQ.out] at O2 HH
          have HN2 := Lib.hid (HN.out.next HH.out)
          go_wp2_with fail
          go_roundw
          case rel => exact ⟨k + 1, A', M, c', by omega, rfl, by go_num, O2.out.rws, HN2.out, bel_trans BK.out B2.out⟩
          case measure => simp [intOf]; omega
    · obtain rfl : n = k := by omega
      have d0 := decide_eq_false (show ¬ (n : Int) < (n : Int) by omega)
      go_wp2_with fail
      go_ret
      exact ⟨.inr ⟨HN.out.none hf HNE.out, rfl⟩, BK.out⟩
end Go.Proofs.Ytikcbconfinibaa
