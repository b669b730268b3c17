/- Contracts of the functions on voices: valid, paths, ends, weights, lost, passing. -/
import Derived.Test.YtefddohjnemdiaaVoB
namespace Go.Proofs.Ytefddohjnemdiaa
set_option linter.unusedVariables false
set_option linter.unusedSimpArgs false
set_option maxRecDepth 100000
open Go.RowKit Go.Deep
theorem zr_take (r : List Nat) (k : Nat) : (zr r).take k = zr (r.take k) := by simp [zr, List.map_take]
theorem nd_take {r : List Nat} {k t : Nat} (h : r.Nodup) (ht : r[k]? = some t) : t ∉ r.take k := by
  intro hm
  obtain ⟨hk, rfl⟩ := List.getElem?_eq_some_iff.1 ht
  obtain ⟨i, hi, e⟩ := List.mem_take_iff_getElem.1 hm
  exact List.pairwise_iff_getElem.1 h i k (by omega) hk (by omega) e
set_option maxHeartbeats 1000000 in
theorem validVoices_ok (V : List Vo) (ok : VOk V) (A : Option Addr) (n c : Nat) (w : World) (hV : VoV w A n c V) :
    Calls Try.prog 24 #[.slice A n c] w fun e w' => e = .returned (.bool true) ∧ Below w.heap.size w w' := by
  have HV := Lib.hid hV
  have hl : V.length = n := hV.1
  have n12 := ok.n12
  have n1 := ok.n1
  have OK := Lib.hid ok
  clear ok hV
  go_enter Try.func24, Try.ntmps24
  go_wp2_with fail
  go_loopw [9] (fun t wr => ∃ i : Nat, i ≤ n ∧ t = .int .i64 i ∧ Below w.heap.size w wr) (fun t _ => n - (intOf t).toNat)
  case atStart => exact ⟨0, Nat.zero_le _, rfl, Below.refl _ _⟩
  case round =>
    obtain ⟨i, hi, rfl, hb⟩ := hrel
    have HB := Lib.hid hb
    clear hb
    by_cases hlt : i < n
    · have d0 := decide_eq_true (show (i : Int) < (n : Int) by omega)
      have i0 : (0 : Int) ≤ (i : Int) := by omega
      have i1 : (i : Int) < (n : Int) := by omega
      obtain ⟨b, off, T, td, rfl, hbw, hc0w, hc1w, tiw⟩ := HV.out.at hlt
      have TIW := Lib.hid tiw
      have hc0 := (HB.out.cell (p := ⟨b, off + i * 2, none⟩) hbw).trans hc0w
      have hc1 := (HB.out.cell (p := ⟨b, off + i * 2 + 1, none⟩) hbw).trans hc1w
      obtain ⟨bv, hbv⟩ : ∃ x, spk V i = x := ⟨_, rfl⟩
      obtain ⟨tl, htl⟩ : ∃ x, (trs V i).length = x := ⟨_, rfl⟩
      rw [hbv] at hc0
      rw [htl] at hc1 TIW
      have HTL := Lib.hid htl
      have l4 := OK.out.l4 i
      rw [htl] at l4
      have ba := bel_alloc wr (.cells #[.bool bv, .slice T tl td] 29)
      have B1 := Lib.hid (bel_trans HB.out ba)
      have C1 := Lib.hid (Cs.new wr [.bool bv, .slice T tl td] 29)
      have y0 := C1.out.cell 0 rfl
      have y1 := C1.out.cell 1 rfl
      have TIB := Lib.hid (TIW.out.below B1.out)
      have tc := TIB.out.2.1
      clear hc0w hc1w tiw ba hbv htl
      go_wp2_with fail
      go_loop [17] (fun t => ∃ k : Nat, k ≤ tl ∧ t = .int .i64 k) (fun t => tl - (intOf t).toNat)
      case atStart => exact ⟨0, Nat.zero_le _, rfl⟩
      case round =>
        obtain ⟨k, hk, rfl⟩ := hrel
        have HI := Lib.hid hlt
        clear hlt d0
        by_cases hlt : k < tl
        · have d0 := decide_eq_true (show (k : Int) < (tl : Int) by omega)
          have k0 : (0 : Int) ≤ (k : Int) := by omega
          have k1 : (k : Int) < (tl : Int) := by omega
          have k2 : (k : Int) ≤ (td : Int) := by omega
          have FR := Lib.hid (TIB.out.front (k := k) (by omega))
          obtain ⟨b2, off2, z, rfl, _, hct, _, _, hzi⟩ := TIB.out.at hlt
          obtain ⟨t, ht, rfl⟩ := zr_get hzi.out
          have htn : t < V.length := OK.out.lt i t (List.mem_of_getElem? ht)
          have hti : t ≠ i := OK.out.ne i t (List.mem_of_getElem? ht)
          have hnd := nd_take (OK.out.nd i) ht
          have hin : inR (t : Int) 0 ((n : Int) - 1) = true := inR_true.2 (by omega)
          have ew : IntKind.i64.wrap ((n : Int) - 1) = (n : Int) - 1 := IntWalk.i64_in _ (by omega)
          have e1 : decide ((t : Int) = (i : Int)) = false := decide_eq_false (by omega)
          have e2 : ((t : Int) == (i : Int)) = false := by rw [beq_eq_false_iff_ne]; omega
          have CT := Lib.hid (contains_ok (some ⟨b2, off2, none⟩) k td ((trs V i).take k) t _ (by rw [← zr_take]; exact FR.out))
          rw [decide_eq_false hnd] at CT
          clear hzi ht hnd
          go_wp2_with fail
          refine (within_any _ _ _ _).mono ?_
          rintro e w' ⟨rfl, rfl⟩
          rw [hin]
          go_wp2_with fail
          refine CT.out.mono ?_
          rintro e w' ⟨rfl, rfl⟩
          go_wp2_with fail
          go_round
          case rel => exact ⟨k + 1, by omega, by go_num⟩
          case measure => simp [intOf]; omega
        · obtain rfl : tl = k := by omega
          have d0 := decide_eq_false (show ¬ (tl : Int) < (tl : Int) by omega)
          have d1 := decide_eq_false (show ¬ (4 : Int) < (tl : Int) by omega)
          have hI := HI.out
          go_wp2_with fail
          go_roundw
          case rel => exact ⟨i + 1, by omega, by go_num, B1.out⟩
          case measure => simp [intOf]; omega
    · obtain rfl : n = i := by omega
      have d0 := decide_eq_false (show ¬ (n : Int) < (n : Int) by omega)
      have d1 := decide_eq_true (show (1 : Int) ≤ (n : Int) by omega)
      have d2 := decide_eq_true (show (n : Int) ≤ (12 : Int) by omega)
      go_wp2_with fail
      go_ret
      exact ⟨rfl, HB.out⟩
theorem isMember_ok (V : List Vo) (ok : VOk V) (m : Nat) (hm : m < V.length) (A : Option Addr) (n c : Nat) (w : World) (hV : VoV w A n c V) :
    Calls Try.prog 20 #[.slice A n c, .int .i64 m] w fun e w' => e = .returned (.bool true) ∧ Below w.heap.size w w' := by
  have hl : V.length = n := hV.1
  have n12 := ok.n12
  have VA := Lib.hid (validVoices_ok V ok A n c w hV)
  have hin : inR (m : Int) 0 ((n : Int) - 1) = true := inR_true.2 (by omega)
  have ew : IntKind.i64.wrap ((n : Int) - 1) = (n : Int) - 1 := IntWalk.i64_in _ (by omega)
  clear hV ok
  go_enter Try.func20, Try.ntmps20
  go_wp2_with fail
  refine VA.out.mono ?_
  rintro e w1 ⟨rfl, b1⟩
  have B1 := Lib.hid b1
  clear b1 VA
  go_wp2_with fail
  refine (within_any _ _ _ _).mono ?_
  rintro e w' ⟨rfl, rfl⟩
  rw [hin]
  go_wp2_with fail
  go_ret
  exact ⟨rfl, B1.out⟩
theorem isRule_ok (rule : Nat) (h : rule ≤ 2) (w : World) : Calls Try.prog 22 #[.int .i64 (rule : Int)] w fun e w' => e = .returned (.bool true) ∧ w = w' := by
  have hin : inR (rule : Int) 0 2 = true := inR_true.2 (by omega)
  go_enter Try.func22, Try.ntmps22
  go_wp2_with fail
  refine (within_any _ _ _ _).mono ?_
  rintro e w' ⟨rfl, rfl⟩
  rw [hin]
  go_wp2_with fail
  go_ret
  exact ⟨rfl, rfl⟩
open Classical in
noncomputable def rb (V : List Vo) (m : Nat) : Bool := decide (Rch V [] m)
theorem rb_yes {V : List Vo} {m : Nat} (h : Rch V [] m) : rb V m = true := by unfold rb; simp [h]
theorem rb_no {V : List Vo} {m : Nat} (h : ¬ Rch V [] m) : rb V m = false := by unfold rb; simp [h]
theorem pathOf_ok (V : List Vo) (ok : VOk V) (rule : Nat) (h2 : rule ≤ 2) (m : Nat) (hm : m < V.length) (A : Option Addr) (n c : Nat) (w : World) (hV : VoV w A n c V) :
    Calls Try.prog 11 #[.slice A n c, .int .i64 (rule : Int), .int .i64 m] w fun e w' => ∃ O L oc, e = .returned (.tuple #[.slice O L oc, .bool (rb V m)]) ∧ OwnI w' w.heap.size O L oc (zr (bpath V rule m)) ∧ Below w.heap.size w w' := by
  have HV := Lib.hid hV
  have OK := Lib.hid ok
  have IM := Lib.hid (isMember_ok V ok m hm A n c w hV)
  clear hV ok
  by_cases hr : Rch V [] m
  · have HR := Lib.hid hr
    have RB := Lib.hid (rb_yes hr)
    clear hr
    go_enter Try.func11, Try.ntmps11
    go_wp2_with fail
    refine IM.out.mono ?_
    rintro e w1 ⟨rfl, b1⟩
    have B1 := Lib.hid b1
    clear b1 IM
    go_wp2_with fail
    refine (isRule_ok rule h2 _).mono ?_
    rintro e w' ⟨rfl, rfl⟩
    go_wp2_with fail
    refine (bestPath_ok V OK.out rule m hm A n c w1 (HV.out.below B1.out) h2).mono ?_
    rintro e w2 ⟨O, oc, rfl, o2, hy, _, b2⟩
    obtain ⟨g, rfl⟩ := hy HR.out
    have B2 := Lib.hid (bel_trans B1.out b2)
    have O2 := Lib.hid (o2.mono B1.out.size)
    clear o2 hy b2
    obtain ⟨L, hL⟩ : ∃ x, (bpath V rule m).length = x := ⟨_, rfl⟩
    rw [hL] at O2 ⊢
    clear hL
    go_wp2_with fail
    go_ret2
    exact ⟨some ⟨g, 0, none⟩, L, oc, by rw [RB.out]; rfl, O2.out, B2.out⟩
  · have HR := Lib.hid hr
    have RB := Lib.hid (rb_no hr)
    clear hr
    go_enter Try.func11, Try.ntmps11
    go_wp2_with fail
    refine IM.out.mono ?_
    rintro e w1 ⟨rfl, b1⟩
    have B1 := Lib.hid b1
    clear b1 IM
    go_wp2_with fail
    refine (isRule_ok rule h2 _).mono ?_
    rintro e w' ⟨rfl, rfl⟩
    go_wp2_with fail
    refine (bestPath_ok V OK.out rule m hm A n c w1 (HV.out.below B1.out) h2).mono ?_
    rintro e w2 ⟨O, oc, rfl, o2, _, hn, b2⟩
    obtain ⟨rfl, rfl⟩ := hn HR.out
    have B2 := Lib.hid (bel_trans B1.out b2)
    have BN := Lib.hid (bpath_no (rule := rule) HR.out)
    clear o2 hn b2
    rw [BN.out]
    go_wp2_with fail
    go_ret2
    exact ⟨none, 0, 0, by rw [RB.out]; rfl, by first | exact ownI_nil _ _ | (rw [BN.out]; exact ownI_nil _ _), B2.out⟩
theorem endZ_wf {V : List Vo} (ok : VOk V) (rule : Nat) {i : Nat} (hi : i < V.length) : -1 ≤ endZ V rule i ∧ endZ V rule i < V.length := by
  rcases endZ_cases ok rule hi with ⟨_, h⟩ | ⟨_, o, h1, _, h2, _⟩ <;> omega
set_option maxHeartbeats 1000000 in
theorem settle_ok (V : List Vo) (ok : VOk V) (rule : Nat) (h2 : rule ≤ 2) (A : Option Addr) (n c : Nat) (w : World) (hV : VoV w A n c V) :
    Calls Try.prog 15 #[.slice A n c, .int .i64 (rule : Int)] w fun e w' => ∃ O oc, e = .returned (.tuple #[.slice O n oc, .bool true]) ∧ OwnI w' w.heap.size O n oc (settleK V rule n) ∧ Below w.heap.size w w' := by
  have HV := Lib.hid hV
  have hl : V.length = n := hV.1
  have n12 := ok.n12
  have OK := Lib.hid ok
  have VA := Lib.hid (validVoices_ok V ok A n c w hV)
  clear hV ok
  go_enter Try.func15, Try.ntmps15
  go_wp2_with fail
  refine VA.out.mono ?_
  rintro e w1 ⟨rfl, b1⟩
  have O0 := Lib.hid ((ownI_lit w1).mono b1.size)
  have B1 := Lib.hid (bel_trans b1 (bel_alloc w1 (.cells #[] 2)))
  clear b1 VA
  go_wp2_with fail
  refine (isRule_ok rule h2 _).mono ?_
  rintro e w' ⟨rfl, rfl⟩
  go_wp2_with fail
  go_loopw [6, 21] (fun s t wr => ∃ (i : Nat) (O : Option Addr) (oc : Nat), i ≤ n ∧ s = .slice O i oc ∧ t = .int .i64 i ∧ OwnI wr w.heap.size O i oc (settleK V rule i) ∧ Below w.heap.size w wr) (fun _ t _ => n - (intOf t).toNat)
  case atStart => exact ⟨0, _, 0, Nat.zero_le _, rfl, rfl, O0.out, B1.out⟩
  case round =>
    obtain ⟨i, O, oc, hi, rfl, rfl, ho, hb⟩ := hrel
    have HO := Lib.hid ho
    have HB := Lib.hid hb
    clear ho hb O0 B1
    by_cases hlt : i < n
    · have d0 := decide_eq_true (show (i : Int) < (n : Int) by omega)
      have BPc := Lib.hid (bestPath_ok V OK.out rule i (by omega) A n c wr (HV.out.below HB.out) h2)
      have WF := endZ_wf OK.out rule (i := i) (by omega)
      by_cases hr : Rch V [] i
      · have HR := Lib.hid hr
        obtain ⟨l, o, hp, ho, _, _, he⟩ := endZ_yes OK.out (rule := rule) (by omega) hr
        have HP := Lib.hid hp
        have HE := Lib.hid he
        clear hr hp he
        go_wp2_with fail
        refine BPc.out.mono ?_
        rintro e w2 ⟨P, pc, rfl, o2, hy, _, b2⟩
        obtain ⟨g, rfl⟩ := hy HR.out
        have co := o2.cell (j := l.length) (z := (o : Int)) (by rw [HP.out, zr_app, List.getElem?_append_right (by rw [zr_len]; omega), zr_len, Nat.sub_self]; rfl)
        have B2 := Lib.hid (bel_trans HB.out b2)
        have O2 := Lib.hid (HO.out.below b2)
        have bz := B2.out.size
        have hL : (bpath V rule i).length = l.length + 1 := by rw [HP.out]; simp
        rw [hL]
        have lb : l.length + 1 ≤ 12 := by
          have := nodup_bd _ _ (bpath_yes OK.out (rule := rule) (by omega) HR.out).nd (bpath_yes OK.out (rule := rule) (by omega) HR.out).lt
          omega
        have ew0 : IntKind.i64.wrap (((l.length + 1 : Nat) : Int) - 1) = (l.length : Int) := by rw [IntWalk.i64_in _ (by omega)]; omega
        have u0 : (0 : Int) ≤ (l.length : Int) := by omega
        have u1 : (l.length : Int) < ((l.length + 1 : Nat) : Int) := by omega
        clear o2 hy b2 hL BPc
        go_wp2_with (at_builtin; refine app_int_at _ rfl _ _ rfl w.heap.size O i oc _ rfl O2.out (o : Int) (by omega) (by omega) rfl (by omega) bz ?_; intro A3 c3 w3 p1 p2 p3)
        go_roundw
        case rel => exact ⟨i + 1, A3, c3, by omega, rfl, by go_num, by rw [settleK_succ, HE.out]; exact p1, B2.out.grown p2 B2.out.size (fun x hx => (O2.out.block x hx).1)⟩
        case measure => simp [intOf]; omega
      · have HR := Lib.hid hr
        have HE := Lib.hid (endZ_no (rule := rule) hr)
        clear hr
        go_wp2_with fail
        refine BPc.out.mono ?_
        rintro e w2 ⟨P, pc, rfl, o2, _, hn, b2⟩
        obtain ⟨rfl, rfl⟩ := hn HR.out
        have BN := Lib.hid (bpath_no (rule := rule) HR.out)
        rw [BN.out]
        have B2 := Lib.hid (bel_trans HB.out b2)
        have O2 := Lib.hid (HO.out.below b2)
        have bz := B2.out.size
        clear o2 hn b2 BPc
        go_wp2_with (at_builtin; refine app_int_at _ rfl _ _ rfl w.heap.size O i oc _ rfl O2.out (-1) (by omega) (by omega) rfl (by omega) bz ?_; intro A3 c3 w3 p1 p2 p3)
        go_roundw
        case rel => exact ⟨i + 1, A3, c3, by omega, rfl, by go_num, by rw [settleK_succ, HE.out]; exact p1, B2.out.grown p2 B2.out.size (fun x hx => (O2.out.block x hx).1)⟩
        case measure => simp [intOf]; omega
    · obtain rfl : n = i := by omega
      have d0 := decide_eq_false (show ¬ (n : Int) < (n : Int) by omega)
      go_wp2_with fail
      go_ret2
      exact ⟨O, oc, rfl, HO.out, HB.out⟩
theorem made_i64 (w : World) (n : Nat) (hn : n ≤ 1048576) : OwnI (w.alloc (.cells (madeCells #[.int .i64 0] n) 2)) w.heap.size (some ⟨w.heap.size, 0, none⟩) n n (zr (List.replicate n 0)) := by
  refine ⟨?_, ints_of_zr (by intro x hx; rw [List.eq_of_mem_replicate hx]; omega)⟩
  have := World.ownsRow_lit (base := w.heap.size) (e := 2) (size := 1) w (vals (zr (List.replicate n 0))).toArray n (Nat.le_refl _) (by unfold maxLen; omega) (by simp [vals, zr])
  rw [show (vals (zr (List.replicate n 0))).toArray = madeCells #[.int .i64 0] n by
    apply Array.toList_inj.1
    rw [List.toList_toArray, toList_madeCells_one]
    simp [vals, zr]] at this
  simpa [vals, zr, toList_madeCells_one] using this
set_option maxHeartbeats 1000000 in
theorem weights_ok (V : List Vo) (ok : VOk V) (rule : Nat) (h2 : rule ≤ 2) (A : Option Addr) (n c : Nat) (w : World) (hV : VoV w A n c V) :
    Calls Try.prog 10 #[.slice A n c, .int .i64 (rule : Int)] w fun e w' => ∃ O oc, e = .returned (.tuple #[.slice O n oc, .bool true]) ∧ OwnI w' w.heap.size O n oc (zr (wtK V rule n)) ∧ Below w.heap.size w w' := by
  have HV := Lib.hid hV
  have hl : V.length = n := hV.1
  have n12 := ok.n12
  have n1 := ok.n1
  have OK := Lib.hid ok
  have SV := Lib.hid (settle_ok V ok rule h2 A n c w hV)
  clear hV ok
  go_enter Try.func10, Try.ntmps10
  go_wp2_with fail
  refine SV.out.mono ?_
  rintro e w1 ⟨E, ec, rfl, o1, b1⟩
  have E1 := Lib.hid o1
  have B1 := Lib.hid b1
  have hmk := fun W => run_make_row' (P := Try.prog) 27 2 (.int .i64 0) 8 Try.underlying27 info_int rfl .i64 .i64 n (by omega) (by omega) W
  have hn48 : (n : Int) ≤ 35184372088832 := by omega
  have ba := bel_alloc w1 (.cells (madeCells #[.int .i64 0] n) 2)
  have M2 := Lib.hid ((made_i64 w1 n (by omega)).mono b1.size)
  have E2 := Lib.hid (E1.out.below ba)
  have B2 := Lib.hid (bel_trans b1 ba)
  have AP := Lib.hid (show Ap (Value.slice E n ec).ownBlock (some w1.heap.size) from fun x hx e => by
    injection e with e
    have := (E1.out.block x hx).2
    omega)
  clear o1 b1 ba SV
  go_wp2_with fail
  obtain ⟨w2, hw2⟩ : ∃ x, w1.alloc (.cells (madeCells #[.int .i64 0] n) 2) = x := ⟨_, rfl⟩
  rw [hw2] at M2 E2 B2
  rw [hw2]
  obtain ⟨g, hg⟩ : ∃ x, w1.heap.size = x := ⟨_, rfl⟩
  rw [hg] at M2 AP
  rw [hg]
  have B1s := B1.out.size
  have gb : w.heap.size ≤ g := by omega
  clear hw2 hg hmk E1 B1 B1s
  go_loopw [24] (fun t wr => ∃ i : Nat, i ≤ n ∧ t = .int .i64 i ∧ OwnI wr w.heap.size (some ⟨g, 0, none⟩) n n (zr (wtK V rule i)) ∧ OwnI wr w.heap.size E n ec (settleK V rule n) ∧ Below w.heap.size w wr) (fun t _ => n - (intOf t).toNat)
  case atStart => exact ⟨0, Nat.zero_le _, rfl, by rw [wtK_zero, hl]; exact M2.out, E2.out, B2.out⟩
  case round =>
    obtain ⟨i, hi, rfl, hm, he, hb⟩ := hrel
    have HM := Lib.hid hm
    have HE := Lib.hid he
    have HB := Lib.hid hb
    clear hm he hb M2 E2 B2
    by_cases hlt : i < n
    · have d0 := decide_eq_true (show (i : Int) < (n : Int) by omega)
      obtain ⟨ge, rfl, _, _⟩ := HE.out.form (by omega)
      have i0 : (0 : Int) ≤ (i : Int) := by omega
      have i1 : (i : Int) < (n : Int) := by omega
      have ce := HE.out.cell (settleK_at (V := V) (rule := rule) hlt)
      rcases endZ_cases OK.out rule (i := i) (by omega) with ⟨_, h3⟩ | ⟨_, o, h3, _, h4, _⟩
      · have NX := Lib.hid (wtK_no h3)
        rw [h3] at ce
        clear h3
        go_wp2_with fail
        go_roundw
        case rel => exact ⟨i + 1, by omega, by go_num, by rw [NX.out]; exact HM.out, HE.out, HB.out⟩
        case measure => simp [intOf]; omega
      · have NX := Lib.hid (wtK_yes h3 h4)
        rw [h4] at ce
        have o0 : (0 : Int) ≤ (o : Int) := by omega
        have o1 : (o : Int) < (n : Int) := by omega
        have wl := wtN_le V rule i o
        have cx := HM.out.cell (zr_at (wtK_at (rule := rule) (k := i) h3))
        have fx := HM.out.free o
        obtain ⟨x, hx⟩ : ∃ x, wtN V rule i o = x := ⟨_, rfl⟩
        rw [hx] at NX cx wl
        have ew : IntKind.i64.wrap ((x : Int) + 1) = (x : Int) + 1 := IntWalk.i64_in _ (by omega)
        have dg := decide_eq_true o0
        clear h4 hx
        go_wp2_with fail
        go_roundw
        case rel =>
          have st := HM.out.set o ((x : Int) + 1) (by omega) (by omega)
          exact ⟨i + 1, by omega, by go_num, by rw [NX.out, zr_set]; exact st.1, HE.out.ap st.2 AP.out, HB.out.grown st.2 HB.out.size (fun y hy => by injection hy with hy; omega)⟩
        case measure => simp [intOf]; omega
    · obtain rfl : n = i := by omega
      have d0 := decide_eq_false (show ¬ (n : Int) < (n : Int) by omega)
      go_wp2_with fail
      go_ret2
      exact ⟨_, n, rfl, HM.out, HB.out⟩
theorem lost_ok (V : List Vo) (ok : VOk V) (A : Option Addr) (n c : Nat) (w : World) (hV : VoV w A n c V) :
    Calls Try.prog 14 #[.slice A n c] w fun e w' => ∃ O L oc, e = .returned (.tuple #[.slice O L oc, .bool true]) ∧ OwnI w' w.heap.size O L oc (zr (lostK V n)) ∧ Below w.heap.size w w' := by
  have HV := Lib.hid hV
  have hl : V.length = n := hV.1
  have n12 := ok.n12
  have OK := Lib.hid ok
  have VA := Lib.hid (validVoices_ok V ok A n c w hV)
  clear hV ok
  go_enter Try.func14, Try.ntmps14
  go_wp2_with fail
  refine VA.out.mono ?_
  rintro e w1 ⟨rfl, b1⟩
  have O0 := Lib.hid ((ownI_lit w1).mono b1.size)
  have B1 := Lib.hid (bel_trans b1 (bel_alloc w1 (.cells #[] 2)))
  clear b1 VA
  go_wp2_with fail
  go_loopw [4, 12] (fun s t wr => ∃ (i L : Nat) (O : Option Addr) (oc : Nat), i ≤ n ∧ s = .slice O L oc ∧ t = .int .i64 i ∧ OwnI wr w.heap.size O L oc (zr (lostK V i)) ∧ Below w.heap.size w wr) (fun _ t _ => n - (intOf t).toNat)
  case atStart => exact ⟨0, 0, _, 0, Nat.zero_le _, rfl, rfl, O0.out, B1.out⟩
  case round =>
    obtain ⟨i, L, O, oc, hi, rfl, rfl, ho, hb⟩ := hrel
    have HO := Lib.hid ho
    have HB := Lib.hid hb
    have hL := ho.len
    rw [zr_len] at hL
    have hL2 := lostK_le V i
    rw [hL] at hL2
    clear ho hb O0 B1 hL
    by_cases hlt : i < n
    · have d0 := decide_eq_true (show (i : Int) < (n : Int) by omega)
      have EF := Lib.hid (endsFrom_ok V OK.out i (by omega) [] (by simp) A n c none 0 0 wr (HV.out.below HB.out) (ints_nil _ _))
      by_cases hr : Rch V [] i
      · have HR := Lib.hid hr
        have NX := Lib.hid (lostK_no hr)
        clear hr
        go_wp2_with fail
        refine EF.out.mono ?_
        rintro e w2 ⟨P, L1, pc, rfl, hL1, _, b2⟩
        have l0 : L1 ≠ 0 := fun e => hL1.1 e HR.out
        have dL : decide ((L1 : Int) = 0) = false := decide_eq_false (by omega)
        have dL2 : ((L1 : Int) == 0) = false := by rw [beq_eq_false_iff_ne]; omega
        have B2 := Lib.hid (bel_trans HB.out b2)
        have O2 := Lib.hid (HO.out.below b2)
        clear b2 hL1 EF
        go_wp2_with fail
        go_roundw
        case rel => exact ⟨i + 1, L, O, oc, by omega, rfl, by go_num, by rw [NX.out]; exact O2.out, B2.out⟩
        case measure => simp [intOf]; omega
      · have HR := Lib.hid hr
        have NX := Lib.hid (lostK_yes hr)
        clear hr
        go_wp2_with fail
        refine EF.out.mono ?_
        rintro e w2 ⟨P, L1, pc, rfl, hL1, _, b2⟩
        obtain rfl : L1 = 0 := hL1.2 HR.out
        have B2 := Lib.hid (bel_trans HB.out b2)
        have O2 := Lib.hid (HO.out.below b2)
        have bz := B2.out.size
        clear b2 hL1 EF
        go_wp2_with (at_builtin; refine app_int_at _ rfl _ _ rfl w.heap.size O L oc _ rfl O2.out (i : Int) (by omega) (by omega) rfl (by omega) bz ?_; intro A3 c3 w3 p1 p2 p3)
        go_roundw
        case rel => exact ⟨i + 1, L + 1, A3, c3, by omega, rfl, by go_num, by rw [NX.out, zr_app]; exact p1, B2.out.grown p2 B2.out.size (fun x hx => (O2.out.block x hx).1)⟩
        case measure => simp [intOf]; omega
    · obtain rfl : n = i := by omega
      have d0 := decide_eq_false (show ¬ (n : Int) < (n : Int) by omega)
      go_wp2_with fail
      go_ret2
      exact ⟨O, L, oc, rfl, HO.out, HB.out⟩
theorem through_ok (V : List Vo) (ok : VOk V) (rule : Nat) (h2 : rule ≤ 2) (m : Nat) (hm : m < V.length) (A : Option Addr) (n c : Nat) (w : World) (hV : VoV w A n c V) :
    Calls Try.prog 16 #[.slice A n c, .int .i64 (rule : Int), .int .i64 m] w fun e w' => ∃ O L oc, e = .returned (.tuple #[.slice O L oc, .bool true]) ∧ OwnI w' w.heap.size O L oc (zr (thruK V rule m n)) ∧ Below w.heap.size w w' := by
  have HV := Lib.hid hV
  have hl : V.length = n := hV.1
  have n12 := ok.n12
  have OK := Lib.hid ok
  have IM := Lib.hid (isMember_ok V ok m hm A n c w hV)
  clear hV ok
  go_enter Try.func16, Try.ntmps16
  go_wp2_with fail
  refine IM.out.mono ?_
  rintro e w1 ⟨rfl, b1⟩
  have O0 := Lib.hid ((ownI_lit w1).mono b1.size)
  have B1 := Lib.hid (bel_trans b1 (bel_alloc w1 (.cells #[] 2)))
  clear b1 IM
  go_wp2_with fail
  refine (isRule_ok rule h2 _).mono ?_
  rintro e w' ⟨rfl, rfl⟩
  go_wp2_with fail
  go_loopw [8, 22] (fun s t wr => ∃ (i L : Nat) (O : Option Addr) (oc : Nat), i ≤ n ∧ s = .slice O L oc ∧ t = .int .i64 i ∧ OwnI wr w.heap.size O L oc (zr (thruK V rule m i)) ∧ Below w.heap.size w wr) (fun _ t _ => n - (intOf t).toNat)
  case atStart => exact ⟨0, 0, _, 0, Nat.zero_le _, rfl, rfl, O0.out, B1.out⟩
  case round =>
    obtain ⟨i, L, O, oc, hi, rfl, rfl, ho, hb⟩ := hrel
    have HO := Lib.hid ho
    have HB := Lib.hid hb
    have hL := ho.len
    rw [zr_len] at hL
    have hL2 := thruK_le V rule m i
    rw [hL] at hL2
    clear ho hb O0 B1 hL
    by_cases hlt : i < n
    · have d0 := decide_eq_true (show (i : Int) < (n : Int) by omega)
      have BPc := Lib.hid (bestPath_ok V OK.out rule i (by omega) A n c wr (HV.out.below HB.out) h2)
      by_cases hmem : m ∈ bpath V rule i
      · have NX := Lib.hid (thruK_yes hmem)
        have DM := Lib.hid (decide_eq_true hmem)
        clear hmem
        go_wp2_with fail
        refine BPc.out.mono ?_
        rintro e w2 ⟨P, pc, rfl, o2, _, _, b2⟩
        have CT := Lib.hid (contains_ok P _ pc (bpath V rule i) m w2 o2.ints)
        rw [DM.out] at CT
        have B2 := Lib.hid (bel_trans HB.out b2)
        have O2 := Lib.hid (HO.out.below b2)
        have bz := B2.out.size
        clear b2 o2 BPc
        go_wp2_with fail
        refine CT.out.mono ?_
        rintro e w' ⟨rfl, rfl⟩
        go_wp2_with (at_builtin; refine app_int_at _ rfl _ _ rfl w.heap.size O L oc _ rfl O2.out (i : Int) (by omega) (by omega) rfl (by omega) bz ?_; intro A3 c3 w3 p1 p2 p3)
        go_roundw
        case rel => exact ⟨i + 1, L + 1, A3, c3, by omega, rfl, by go_num, by rw [NX.out, zr_app]; exact p1, B2.out.grown p2 B2.out.size (fun x hx => (O2.out.block x hx).1)⟩
        case measure => simp [intOf]; omega
      · have NX := Lib.hid (thruK_no hmem)
        have DM := Lib.hid (decide_eq_false hmem)
        clear hmem
        go_wp2_with fail
        refine BPc.out.mono ?_
        rintro e w2 ⟨P, pc, rfl, o2, _, _, b2⟩
        have CT := Lib.hid (contains_ok P _ pc (bpath V rule i) m w2 o2.ints)
        rw [DM.out] at CT
        have B2 := Lib.hid (bel_trans HB.out b2)
        have O2 := Lib.hid (HO.out.below b2)
        clear b2 o2 BPc
        go_wp2_with fail
        refine CT.out.mono ?_
        rintro e w' ⟨rfl, rfl⟩
        go_wp2_with fail
        go_roundw
        case rel => exact ⟨i + 1, L, O, oc, by omega, rfl, by go_num, by rw [NX.out]; exact O2.out, B2.out⟩
        case measure => simp [intOf]; omega
    · obtain rfl : n = i := by omega
      have d0 := decide_eq_false (show ¬ (n : Int) < (n : Int) by omega)
      go_wp2_with fail
      go_ret2
      exact ⟨O, L, oc, rfl, HO.out, HB.out⟩
end Go.Proofs.Ytefddohjnemdiaa
