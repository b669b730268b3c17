/- Acts in force. -/
import Derived.Test.YtcoladhppbknnaaAc
namespace Go.Proofs.Ytcoladhppbknnaa
set_option linter.unusedVariables false
set_option linter.unusedSimpArgs false
set_option maxRecDepth 100000
open Go.RowKit Go.Deep
def znt (r : List Nat) : List Int := r.map fun a : Nat => (a : Int)
theorem znt_at {r : List Nat} {i x : Nat} (h : r[i]? = some x) : (znt r)[i]? = some (x : Int) := by simp [znt, h]
theorem znt_len (r : List Nat) : (znt r).length = r.length := by simp [znt]
def inF (es : List Ac) (day : Int) (i : Nat) : Bool := decide ((es.getD i dAc).f ≤ day) && decide (day < (es.getD i dAc).u)
def frN (es : List Ac) (day : Int) (k : Nat) : List Nat := (List.range k).filter (inF es day)
theorem frN_yes {es : List Ac} {day : Int} {k : Nat} (h : inF es day k = true) : frN es day (k + 1) = frN es day k ++ [k] := by
  unfold frN
  rw [List.range_succ, List.filter_append]
  simp [h]
theorem frN_no {es : List Ac} {day : Int} {k : Nat} (h : inF es day k = false) : frN es day (k + 1) = frN es day k := by
  unfold frN
  rw [List.range_succ, List.filter_append]
  simp [h]
theorem frN_len (es : List Ac) (day : Int) (k : Nat) : (frN es day k).length ≤ k := by
  have := List.length_filter_le (inF es day) (List.range k)
  rw [List.length_range] at this
  exact this
theorem frN_mem {es : List Ac} {day : Int} {k i : Nat} (h : i ∈ frN es day k) : i < k := List.mem_range.1 (List.mem_filter.1 h).1
theorem isDate_any (n : Int) (w : World) : Calls Try.prog 84 #[.int .i64 n] w fun e w' => e = .returned (.bool (inR n 0 999)) ∧ w = w' := by
  go_enter Try.func84, Try.ntmps84
  go_wp2_with (go_at_call 54; refine (within_any _ _ _ _).mono ?_; rintro e w' ⟨rfl, rfl⟩)
  go_ret
  exact ⟨rfl, rfl⟩
set_option maxHeartbeats 1000000 in
theorem inForce_any (A : Option Addr) (n c : Nat) (es : List Ac) (day : Int) (w : World) (h : Acs w A n c es) (hn : n ≤ 1000) :
    Calls Try.prog 86 #[.slice A n c, .int .i64 day] w fun e w' => ∃ O L oc, e = .returned (.slice O L oc) ∧ OwnI w' w.heap.size O L oc (znt (frN es day n)) ∧ Below w.heap.size w w' := by
  obtain rfl : es.length = n := h.len
  have H := Lib.hid h
  have O0 := Lib.hid (ownI_lit w)
  have B0 := Lib.hid (bel_alloc w (.cells #[] 2))
  clear h
  go_enter Try.func86, Try.ntmps86
  go_wp2_with fail
  go_loopw [5, 11] (fun s t wr => ∃ (k L : Nat) (O : Option Addr) (oc : Nat), k ≤ es.length ∧ s = .slice O L oc ∧ t = .int .i64 k ∧ OwnI wr w.heap.size O L oc (znt (frN es day k)) ∧ Below w.heap.size w wr) (fun _ t _ => es.length - (intOf t).toNat)
  case atStart => exact ⟨0, 0, _, 0, Nat.zero_le _, rfl, rfl, O0.out, B0.out⟩
  case round =>
    obtain ⟨k, L, O, oc, hk, rfl, rfl, ho, hb⟩ := hrel
    have HO := Lib.hid ho
    have HB := Lib.hid hb
    have hL := ho.len
    rw [znt_len] at hL
    have hL2 := frN_len es day k
    clear ho hb O0 B0
    by_cases hlt : k < es.length
    · have d0 := decide_eq_true (show (k : Int) < (es.length : Int) by omega)
      have k0 : (0 : Int) ≤ (k : Int) := by omega
      have k1' : (k : Int) < (es.length : Int) := by omega
      obtain ⟨b, off, e, rfl, hbw, he, ok, y0, y1, y2⟩ := (H.out.below HB.out).at hlt
      have GE := getD_ac he.out
      have ba := bel_alloc wr (.cells #[.int .i64 e.f, .int .i64 e.u, .slice e.A e.n e.c] 72)
      have CC := Cs.new wr [.int .i64 e.f, .int .i64 e.u, .slice e.A e.n e.c] 72
      have z0 := CC.cell 0 rfl
      have z1 := CC.cell 1 rfl
      have BA := Lib.hid (bel_trans HB.out ba)
      have OA := Lib.hid (HO.out.below ba)
      have bsz := BA.out.size
      clear ba CC ok he
      go_upto_region 5 with fail
      obtain ⟨wb, hwb⟩ : ∃ x, wr.alloc (.cells #[.int .i64 e.f, .int .i64 e.u, .slice e.A e.n e.c] 72) = x := ⟨_, rfl⟩
      rw [show [Value.int .i64 e.f, .int .i64 e.u, .slice e.A e.n e.c].toArray = #[.int .i64 e.f, .int .i64 e.u, .slice e.A e.n e.c] from rfl] at z0 z1
      rw [hwb] at BA OA z0 z1 bsz
      rw [hwb]
      clear hwb y0 y1 y2
      by_cases h1 : e.f ≤ day
      · have d1 := decide_eq_true h1
        by_cases h2 : day < e.u
        · have d2 := decide_eq_true h2
          have NX := Lib.hid (frN_yes (es := es) (day := day) (k := k) (by unfold inF; rw [GE, d1, d2]; rfl))
          clear h1 h2 GE
          go_wp2_with (at_builtin; refine app_int wb rfl _ _ rfl w.heap.size O L oc _ rfl OA.out (k : Int) (by omega) (by omega) rfl (by omega) bsz ?_; intro A' c' w3 p1 p2)
          go_roundw
          case rel => exact ⟨k + 1, L + 1, A', c', by omega, rfl, by go_num, by rw [NX.out]; simpa [znt] using p1, BA.out.grown p2 BA.out.size (fun x hx => (OA.out.block x hx).1)⟩
          case measure => simp [intOf]; omega
        · have d2 := decide_eq_false h2
          have NX := Lib.hid (frN_no (es := es) (day := day) (k := k) (by unfold inF; rw [GE, d1, d2]; rfl))
          clear h1 h2 GE
          go_wp2_with fail
          go_roundw
          case rel => exact ⟨k + 1, L, O, oc, by omega, rfl, by go_num, by rw [NX.out]; exact OA.out, BA.out⟩
          case measure => simp [intOf]; omega
      · have d1 := decide_eq_false h1
        have NX := Lib.hid (frN_no (es := es) (day := day) (k := k) (by unfold inF; rw [GE, d1]; rfl))
        clear h1 GE
        go_wp2_with fail
        go_roundw
        case rel => exact ⟨k + 1, L, O, oc, by omega, rfl, by go_num, by rw [NX.out]; exact OA.out, BA.out⟩
        case measure => simp [intOf]; omega
    · obtain rfl : es.length = k := by omega
      go_wp2_with fail
      go_ret
      exact ⟨O, L, oc, rfl, HO.out, HB.out⟩
theorem ActsInForce_ok (A : Option Addr) (n c : Nat) (es : List Ac) (day : Int) (w : World) (h : Acs w A n c es) (hv : acB es = true) (hn : n ≤ 1000) (hd : inR day 0 999 = true) :
    Calls Try.prog 34 #[.slice A n c, .int .i64 day] w fun e w' => ∃ O L oc, e = .returned (.tuple #[.slice O L oc, .bool true]) ∧ OwnI w' w.heap.size O L oc (znt (frN es day n)) ∧ Below w.heap.size w w' := by
  have V := Lib.hid (ValidActs_any A n c es w h)
  have D := Lib.hid (fun W => isDate_any day W)
  have H := Lib.hid h
  rw [hv] at V
  rw [hd] at D
  clear h hv hd
  go_enter Try.func34, Try.ntmps34
  go_wp2_with fail
  refine V.out.mono ?_
  rintro e w1 ⟨rfl, b1⟩
  go_wp2_with fail
  refine (D.out _).mono ?_
  rintro e w2 ⟨rfl, rfl⟩
  go_wp2_with fail
  refine (inForce_any A n c es day _ (H.out.below b1) hn).mono ?_
  rintro e w3 ⟨O, L, oc, rfl, ho, b3⟩
  have HO := Lib.hid (ho.mono b1.size)
  have B3 := Lib.hid (bel_trans b1 b3)
  clear ho b1 b3
  go_wp2_with fail
  exact bodyPost_ret (v := .tuple #[.slice O L oc, .bool true]) (by simp [results, Try.results34, go_sem]) rfl ⟨O, L, oc, rfl, HO.out, B3.out⟩
end Go.Proofs.Ytcoladhppbknnaa
