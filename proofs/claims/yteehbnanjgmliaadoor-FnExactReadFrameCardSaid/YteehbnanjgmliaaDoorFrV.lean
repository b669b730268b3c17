/- ValidFrame and l08Is, of every frame. -/
import Derived.Test.YteehbnanjgmliaaDoorFrame
namespace Go.Proofs.YteehbnanjgmliaaDoor
set_option linter.unusedVariables false
set_option linter.unusedSimpArgs false
set_option maxRecDepth 100000
open Go.RowKit
def cmp2 (x y u v : Int) : Int := if x < u then -1 else if u < x then 1 else if y < v then -1 else if v < y then 1 else 0
def lexB (p q : List Int) : Bool := decide (cmp2 (p.getD 0 0) (p.getD 1 0) (q.getD 0 0) (q.getD 1 0) < 0)
def rowP (cnt : Int) (l : List Int) : Bool := decide (l.length = 2) && inR (l.getD 0 0) 0 (IntKind.i64.wrap (cnt - 1)) && inR (l.getD 1 0) 0 (IntKind.i64.wrap (cnt - 1))
def rowC (cnt : Int) (rows : List (List Int)) (i : Nat) : Bool := rowP cnt (rows.getD i []) && (decide (i = 0) || lexB (rows.getD (i - 1) []) (rows.getD i []))
def rowsC (cnt : Int) (rows : List (List Int)) (k : Nat) : Bool := (List.range k).all (rowC cnt rows)
def frB (cnt : Int) (rows : List (List Int)) : Bool := rowsC cnt rows rows.length && inR cnt 0 10
theorem rowsC_succ (cnt : Int) (rows : List (List Int)) (k : Nat) : rowsC cnt rows (k + 1) = (rowsC cnt rows k && rowC cnt rows k) := by simp [rowsC, List.range_succ]
theorem frB_no {cnt : Int} {rows : List (List Int)} {i : Nat} (hi : i < rows.length) (h : rowC cnt rows i = false) : frB cnt rows = false := by
  have : rowsC cnt rows rows.length = false := by
    unfold rowsC
    rw [List.all_eq_false]
    exact ⟨i, by simpa using hi, by simp [h]⟩
  simp [frB, this]
theorem getD_row {rows : List (List Int)} {i : Nat} {l : List Int} (h : rows[i]? = some l) : rows.getD i [] = l := by rw [List.getD_eq_getElem?_getD, h]; rfl
/-- A frame that passes is one of small numbers. -/
theorem frB_yes {cnt : Int} {rows : List (List Int)} (h : frB cnt rows = true) : ∃ (n : Nat) (es : List (Nat × Nat)), cnt = n ∧ rows = es.map erow ∧ FrOk n es := by
  unfold frB at h
  rw [Bool.and_eq_true] at h
  obtain ⟨h1, h2⟩ := h
  have b := inR_true.1 h2
  obtain ⟨n, rfl⟩ := Int.eq_ofNat_of_zero_le b.1
  have ew : IntKind.i64.wrap ((n : Int) - 1) = (n : Int) - 1 := IntWalk.i64_in _ (by omega)
  have R : ∀ (i : Nat) (l : List Int), rows[i]? = some l → ∃ p : Nat × Nat, l = erow p ∧ p.1 < n ∧ p.2 < n := by
    intro i l hl
    have hi := (List.getElem?_eq_some_iff.1 hl).1
    have := List.all_eq_true.1 h1 i (List.mem_range.2 hi)
    unfold rowC rowP at this
    rw [getD_row hl, ew] at this
    simp only [Bool.and_eq_true, decide_eq_true_eq] at this
    obtain ⟨⟨⟨q1, q2⟩, q3⟩, _⟩ := this
    match l, q1, q2, q3 with
    | [x, y], _, q2, q3 =>
      have c1 := inR_true.1 q2
      have c2 := inR_true.1 q3
      simp at c1 c2
      refine ⟨(x.toNat, y.toNat), ?_, by simp; omega, by simp; omega⟩
      unfold erow
      simp only
      rw [Int.toNat_of_nonneg c1.1, Int.toNat_of_nonneg c2.1]
  refine ⟨n, rows.map fun l => ((l.getD 0 0).toNat, (l.getD 1 0).toNat), rfl, ?_, ⟨by omega, ?_, ?_⟩⟩
  · apply List.ext_getElem?
    intro i
    rw [List.map_map, List.getElem?_map]
    cases hl : rows[i]? with
    | none => rfl
    | some l =>
      obtain ⟨p, rfl, _⟩ := R i l hl
      simp [erow]
  · intro p hp
    obtain ⟨l, hl, rfl⟩ := List.mem_map.1 hp
    obtain ⟨i, hi⟩ := List.mem_iff_getElem?.1 hl
    obtain ⟨p, rfl, q⟩ := R i l hi
    simpa [erow] using q
  · intro i p q hp hq
    rw [List.getElem?_map] at hp hq
    obtain ⟨l, hl, rfl⟩ := Option.map_eq_some_iff.1 hp
    obtain ⟨m, hm, rfl⟩ := Option.map_eq_some_iff.1 hq
    obtain ⟨p, rfl, _⟩ := R i l hl
    obtain ⟨q, rfl, _⟩ := R (i + 1) m hm
    have hi := (List.getElem?_eq_some_iff.1 hm).1
    have := List.all_eq_true.1 h1 (i + 1) (List.mem_range.2 hi)
    unfold rowC lexB at this
    rw [show i + 1 - 1 = i by omega, getD_row hl, getD_row hm] at this
    simp [erow, cmp2] at this
    have c := this.2
    simp [erow, lt2]
    by_cases e1 : (p.1 : Int) < (q.1 : Int)
    · omega
    · by_cases e2 : (q.1 : Int) < (p.1 : Int)
      · rw [if_neg (by omega), if_pos (by omega)] at c; omega
      · rw [if_neg (by omega), if_neg (by omega)] at c
        by_cases e3 : p.2 < q.2
        · omega
        · rw [if_neg e3] at c
          split at c <;> omega
theorem cmpI_v {x y r : Int} (h : (if x < y then -1 else if y < x then 1 else 0) = r) (w : World) : Calls Tryd.prog 50 #[.int .i64 x, .int .i64 y] w fun e w' => e = .returned (.int .i64 r) ∧ w = w' := by subst h; exact cmpI_any x y w
set_option maxHeartbeats 1000000 in
theorem compare2_any (A : Option Addr) (c : Nat) (B : Option Addr) (d : Nat) (x y u v : Int) (w : World) (h : Ints .i64 w A 2 c [x, y]) (k : Ints .i64 w B 2 d [u, v]) :
    Calls Tryd.prog 36 #[.slice A 2 c, .slice B 2 d] w fun e w' => e = .returned (.int .i64 (cmp2 x y u v)) ∧ w = w' := by
  obtain ⟨bA, oA, rfl, hbA, hcA⟩ := h.2.2.2.2 (by omega)
  obtain ⟨bB, oB, rfl, hbB, hcB⟩ := k.2.2.2.2 (by omega)
  have a0 := hcA 0 x rfl
  have a1 := hcA 1 y rfl
  have b0 := hcB 0 u rfl
  have b1 := hcB 1 v rfl
  rw [Nat.add_zero] at a0 b0
  obtain ⟨r, hr⟩ : ∃ r, cmp2 x y u v = r := ⟨_, rfl⟩
  have HR := Lib.hid hr
  rw [hr]
  clear hcA hcB h k hr
  go_enter Tryd.func36, Tryd.ntmps36
  go_wp2_with fail
  go_loop [11] (fun t => ∃ i : Nat, i ≤ 2 ∧ t = .int .i64 i ∧ Hid (i = 0 ∨ i = 1 ∧ cmp2 x y u v = cmp2 0 y 0 v ∨ i = 2 ∧ cmp2 x y u v = 0)) (fun t => 2 - (intOf t).toNat)
  case atStart => exact ⟨0, by omega, rfl, .inl rfl⟩
  case round =>
    obtain ⟨i, hi, rfl, he⟩ := hrel
    rcases (show i = 0 ∨ i = 1 ∨ i = 2 by omega) with rfl | rfl | rfl
    · by_cases h1 : x < u
      · have hq := Lib.hid (show (if x < u then (-1 : Int) else if u < x then 1 else 0) = -1 from if_pos h1)
        have E := Lib.hid (show r = -1 by rw [← HR.out]; unfold cmp2; rw [if_pos h1])
        clear h1
        go_wp2_with (go_at_call 50; refine (cmpI_v hq.out _).mono ?_; rintro e w' ⟨rfl, rfl⟩)
        go_ret
        exact ⟨ret_int E.out.symm, rfl⟩
      · by_cases h2 : u < x
        · have hq := Lib.hid (show (if x < u then (-1 : Int) else if u < x then 1 else 0) = 1 by rw [if_neg h1, if_pos h2])
          have E := Lib.hid (show r = 1 by rw [← HR.out]; unfold cmp2; rw [if_neg h1, if_pos h2])
          clear h1 h2
          go_wp2_with (go_at_call 50; refine (cmpI_v hq.out _).mono ?_; rintro e w' ⟨rfl, rfl⟩)
          go_ret
          exact ⟨ret_int E.out.symm, rfl⟩
        · have hq := Lib.hid (show (if x < u then (-1 : Int) else if u < x then 1 else 0) = 0 by rw [if_neg h1, if_neg h2])
          have E := Lib.hid (show cmp2 x y u v = cmp2 0 y 0 v by unfold cmp2; rw [if_neg h1, if_neg h2]; simp)
          clear h1 h2
          go_wp2_with (go_at_call 50; refine (cmpI_v hq.out _).mono ?_; rintro e w' ⟨rfl, rfl⟩)
          go_round
          case rel => exact ⟨1, by omega, by go_num, .inr (.inl ⟨rfl, E.out⟩)⟩
          case measure => simp [intOf]
    · have hc := Lib.hid (show cmp2 x y u v = cmp2 0 y 0 v by rcases he.out with q | q | q; omega; exact q.2; omega)
      by_cases h1 : y < v
      · have hq := Lib.hid (show (if y < v then (-1 : Int) else if v < y then 1 else 0) = -1 from if_pos h1)
        have E := Lib.hid (show r = -1 by rw [← HR.out, hc.out]; unfold cmp2; simp [h1])
        clear h1
        go_wp2_with (go_at_call 50; refine (cmpI_v hq.out _).mono ?_; rintro e w' ⟨rfl, rfl⟩)
        go_ret
        exact ⟨ret_int E.out.symm, rfl⟩
      · by_cases h2 : v < y
        · have hq := Lib.hid (show (if y < v then (-1 : Int) else if v < y then 1 else 0) = 1 by rw [if_neg h1, if_pos h2])
          have E := Lib.hid (show r = 1 by rw [← HR.out, hc.out]; unfold cmp2; simp [h1, h2])
          clear h1 h2
          go_wp2_with (go_at_call 50; refine (cmpI_v hq.out _).mono ?_; rintro e w' ⟨rfl, rfl⟩)
          go_ret
          exact ⟨ret_int E.out.symm, rfl⟩
        · have hq := Lib.hid (show (if y < v then (-1 : Int) else if v < y then 1 else 0) = 0 by rw [if_neg h1, if_neg h2])
          have E := Lib.hid (show cmp2 x y u v = 0 by rw [hc.out]; unfold cmp2; simp [h1, h2])
          clear h1 h2
          go_wp2_with (go_at_call 50; refine (cmpI_v hq.out _).mono ?_; rintro e w' ⟨rfl, rfl⟩)
          go_round
          case rel => exact ⟨2, by omega, by go_num, .inr (.inr ⟨rfl, E.out⟩)⟩
          case measure => simp [intOf]
    · have E := Lib.hid (show r = 0 by rw [← HR.out]; rcases he.out with q | q | q; omega; omega; exact q.2)
      go_wp2_with fail
      go_ret
      exact ⟨ret_int E.out.symm, rfl⟩
/-- A row is read. -/
theorem row_at {rows : List (List Int)} {i : Nat} {w : World} {A : Option Addr} {m c : Nat} (h : Rws w A m c rows) (hi : i < m) :
    ∃ b off l A' c', A = some ⟨b, off, none⟩ ∧ b < w.heap.size ∧ rows[i]? = some l ∧ w.cell? ⟨b, off + i, none⟩ = some (.slice A' l.length c') ∧ Ints .i64 w A' l.length c' l := by
  obtain ⟨b, off, A', k, c', zs, rfl, hb, hc, ik, hz⟩ := h.at hi
  obtain rfl : zs.length = k := ik.1
  exact ⟨b, off, zs, A', c', rfl, hb, hz.out, hc, ik⟩
theorem rowP_len {cnt : Int} {l : List Int} (h : l.length ≠ 2) : rowP cnt l = false := by simp [rowP, h]
theorem rowP_two {cnt x y : Int} : rowP cnt [x, y] = (inR x 0 (IntKind.i64.wrap (cnt - 1)) && inR y 0 (IntKind.i64.wrap (cnt - 1))) := by simp [rowP]
theorem rowP_true {cnt : Int} {l : List Int} (h : rowP cnt l = true) : ∃ x y, l = [x, y] := by
  unfold rowP at h
  simp only [Bool.and_eq_true, decide_eq_true_eq] at h
  match l, h.1.1 with
  | [x, y], _ => exact ⟨x, y, rfl⟩
theorem rowC_row {cnt : Int} {rows : List (List Int)} {i : Nat} {l : List Int} (h : rows[i]? = some l) (hp : rowP cnt l = false) : rowC cnt rows i = false := by unfold rowC; rw [getD_row h, hp]; rfl
set_option maxHeartbeats 4000000 in
theorem validFrame_any (cnt : Int) (rows : List (List Int)) (A : Option Addr) (m c : Nat) (w : World) (h : Rws w A m c rows) :
    Calls Tryd.prog 25 #[.agg #[.int .i64 cnt, .slice A m c]] w fun e w' => e = .returned (.bool (frB cnt rows)) ∧ Below w.heap.size w w' := by
  have b0 := bel_alloc w (.cells #[.int .i64 cnt, .slice A m c] 24)
  have C0 := Lib.hid (Cs.new w [.int .i64 cnt, .slice A m c] 24)
  have y0 := C0.out.cell 0 rfl
  have y1 := C0.out.cell 1 rfl
  have hm := h.short
  have HL := Lib.hid h.1
  have B0 := Lib.hid b0
  obtain ⟨cw, hcw⟩ : ∃ r, IntKind.i64.wrap (cnt - 1) = r := ⟨_, rfl⟩
  go_enter Tryd.func25, Tryd.ntmps25
  go_wp2_with fail
  clear y0 y1
  go_loopw [8] (fun t wr => ∃ i : Nat, i ≤ m ∧ t = .int .i64 i ∧ rowsC cnt rows i = true ∧ Below (w.alloc (.cells #[.int .i64 cnt, .slice A m c] 24)).heap.size (w.alloc (.cells #[.int .i64 cnt, .slice A m c] 24)) wr) (fun t _ => m - (intOf t).toNat)
  case atStart => exact ⟨0, Nat.zero_le _, rfl, rfl, Below.refl _ _⟩
  case round =>
    obtain ⟨i, hi, rfl, hall, hbel⟩ := hrel
    have HA := Lib.hid hall
    have HB := Lib.hid hbel
    have CR := Lib.hid (C0.out.below hbel)
    have y0 := CR.out.cell 0 rfl
    have y1 := CR.out.cell 1 rfl
    have bw := Lib.hid (bel_trans B0.out hbel)
    clear hbel hall
    by_cases hlt : i < m
    · obtain ⟨b, off, l, Ai, ci, rfl, hb, hl, hc, ip⟩ := row_at (h.below bw.out) hlt
      have hdi : decide ((i : Int) < (m : Int)) = true := by simp; omega
      have hir : i < rows.length := by rw [HL.out]; exact hlt
      have HR := Lib.hid hl
      by_cases h2 : l.length = 2
      · match l, h2 with
        | [x, y], _ =>
          obtain ⟨bA, oA, rfl, hbA, hcA⟩ := ip.2.2.2.2 (by simp)
          have a0 := hcA 0 x rfl
          have a1 := hcA 1 y rfl
          rw [Nat.add_zero] at a0
          have IP := Lib.hid ip
          have RP := rowP_two (cnt := cnt) (x := x) (y := y)
          rw [hcw] at RP
          have RC := Lib.hid (fun hp => frB_no (cnt := cnt) hir (rowC_row hl hp))
          have hl2 : [x, y].length = 2 := rfl
          rw [hl2] at hc
          clear hcA ip hl
          cases e1 : inR x 0 cw
          · have W0 := Lib.hid e1
            have R := Lib.hid (RC.out (by rw [RP, e1]; rfl))
            clear e1 RP
            rcases i with _ | k
            · rw [Nat.add_zero] at hc
              go_wp2_with fail
              go_quiet ((go_at_call 23; exact quiet_left (within_v (v := _) (by first | exact W0.out | exact W0.out) _)))
              go_wp2_with fail
              go_ret
              exact ⟨ret_bool R.out.symm, below_drewN bw.out _⟩
            · go_wp2_with fail
              go_quiet ((go_at_call 23; exact quiet_left (within_v (v := _) (by first | exact W0.out | exact W0.out) _)))
              go_wp2_with fail
              go_ret
              exact ⟨ret_bool R.out.symm, below_drewN bw.out _⟩
          · cases e2 : inR y 0 cw
            · have W0 := Lib.hid e1
              have W1 := Lib.hid e2
              have R := Lib.hid (RC.out (by rw [RP, e1, e2]; rfl))
              clear e1 e2 RP
              rcases i with _ | k
              · rw [Nat.add_zero] at hc
                go_wp2_with fail
                go_quiet ((go_at_call 23; exact quiet_left (within_v (v := _) (by first | exact W0.out | exact W1.out) _)))
                go_wp2_with fail
                go_ret
                exact ⟨ret_bool R.out.symm, below_drewN bw.out _⟩
              · go_wp2_with fail
                go_quiet ((go_at_call 23; exact quiet_left (within_v (v := _) (by first | exact W0.out | exact W1.out) _)))
                go_wp2_with fail
                go_ret
                exact ⟨ret_bool R.out.symm, below_drewN bw.out _⟩
            · have W0 := Lib.hid e1
              have W1 := Lib.hid e2
              have RT := Lib.hid (show rowP cnt [x, y] = true by rw [RP, e1, e2]; rfl)
              clear e1 e2 RP
              rcases i with _ | k
              · rw [Nat.add_zero] at hc
                have NX := Lib.hid (show rowsC cnt rows 1 = true by rw [rowsC_succ, HA.out]; unfold rowC; rw [getD_row HR.out, RT.out]; rfl)
                go_wp2_with fail
                go_quiet ((go_at_call 23; exact quiet_left (within_v (v := _) (by first | exact W0.out | exact W1.out) _)))
                go_wp2_with fail
                go_roundw
                case rel => exact ⟨1, by omega, by go_num, NX.out, below_drewN HB.out _⟩
                case measure => simp [intOf]; omega
              · obtain ⟨b', off', l', Ai', ci', e1, hb', hl', hc', ip'⟩ := row_at (h.below bw.out) (i := k) (by omega)
                simp only [Option.some.injEq, Addr.mk.injEq, and_true] at e1
                obtain ⟨rfl, rfl⟩ := e1
                have hpk : rowC cnt rows k = true := List.all_eq_true.1 HA.out k (by simp)
                unfold rowC at hpk
                rw [getD_row hl', Bool.and_eq_true] at hpk
                obtain ⟨u, v, rfl⟩ := rowP_true hpk.1
                have hl3 : [u, v].length = 2 := rfl
                rw [hl3] at hc'
                have IQ := Lib.hid ip'
                have ek : ((k + 1 : Nat) : Int) - 1 = (k : Int) := by omega
                have ek2 : IntKind.i64.wrap (((k + 1 : Nat) : Int) - 1) = (k : Int) := by rw [ek]; exact IntWalk.i64_in _ (by omega)
                have RK := Lib.hid (show rowC cnt rows (k + 1) = decide (cmp2 u v x y < 0) by
                  unfold rowC lexB
                  rw [show k + 1 - 1 = k by omega, getD_row HR.out, getD_row hl', RT.out]
                  simp)
                have CM := Lib.hid (fun (W : World) (hA : Ints .i64 W Ai' 2 ci' [u, v]) (hB : Ints .i64 W (some ⟨bA, oA, none⟩) 2 ci [x, y]) => compare2_any Ai' ci' (some ⟨bA, oA, none⟩) ci u v x y W hA hB)
                obtain ⟨r, hr⟩ : ∃ r, cmp2 u v x y = r := ⟨_, rfl⟩
                rw [hr] at RK CM
                clear hpk hl' ip' hr
                by_cases hc0 : r < 0
                · have hd0 : decide ((0 : Int) ≤ r) = false := decide_eq_false (by omega)
                  have NX := Lib.hid (show rowsC cnt rows (k + 1 + 1) = true by rw [rowsC_succ, HA.out, RK.out]; simp [hc0])
                  clear hc0
                  go_wp2_with fail
                  go_quiet ((first | (go_at_call 23; exact quiet_left (within_v (v := _) (by first | exact W0.out | exact W1.out) _)) | (go_at_call 36; exact quiet_left (CM.out _ (by exact IQ.out) (by exact IP.out)))))
                  go_wp2_with fail
                  go_roundw
                  case rel => exact ⟨k + 1 + 1, by omega, by go_num, NX.out, below_drewN HB.out _⟩
                  case measure => simp [intOf]; omega
                · have hd0 : decide ((0 : Int) ≤ r) = true := decide_eq_true (by omega)
                  have R := Lib.hid (frB_no (cnt := cnt) hir (by rw [RK.out]; simp [hc0]))
                  clear hc0
                  go_wp2_with fail
                  go_quiet ((first | (go_at_call 23; exact quiet_left (within_v (v := _) (by first | exact W0.out | exact W1.out) _)) | (go_at_call 36; exact quiet_left (CM.out _ (by exact IQ.out) (by exact IP.out)))))
                  go_wp2_with fail
                  go_ret
                  exact ⟨ret_bool R.out.symm, below_drewN bw.out _⟩
      · have R := Lib.hid (frB_no (cnt := cnt) hir (rowC_row hl (rowP_len h2)))
        have hq : ((l.length : Int) != 2) = true := by simp; omega
        clear hl ip
        rcases i with _ | k
        · rw [Nat.add_zero] at hc
          go_wp2_with fail
          go_quiet (fail)
          go_wp2_with fail
          go_ret
          exact ⟨ret_bool R.out.symm, below_drewN bw.out _⟩
        · go_wp2_with fail
          go_quiet (fail)
          go_wp2_with fail
          go_ret
          exact ⟨ret_bool R.out.symm, below_drewN bw.out _⟩
    · have hdi : decide ((i : Int) < (m : Int)) = false := by simp; omega
      have R := Lib.hid (show frB cnt rows = inR cnt 0 10 by
        unfold frB
        rw [HL.out, show m = i by omega, HA.out]; rfl)
      go_wp2_with fail
      refine (within_any _ _ _ _).mono ?_
      rintro e w' ⟨rfl, rfl⟩
      go_wp2_with fail
      go_ret
      exact ⟨ret_bool R.out.symm, bw.out⟩
end Go.Proofs.YteehbnanjgmliaaDoor
