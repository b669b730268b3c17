/- The supporters of a project. -/
import Derived.Test.YtiodbjfchfmlcaaEl
namespace Go.Proofs.Ytiodbjfchfmlcaa
set_option linter.unusedVariables false
set_option linter.unusedSimpArgs false
set_option maxRecDepth 100000
open Go.RowKit Go.Deep
def zns (r : List Nat) : List Int := r.map fun a : Nat => (a : Int)
theorem zns_at {r : List Nat} {i x : Nat} (h : r[i]? = some x) : (zns r)[i]? = some (x : Int) := by simp [zns, h]
theorem zns_len (r : List Nat) : (zns r).length = r.length := by simp [zns]
theorem zns_snoc (r : List Nat) (k : Nat) : zns (r ++ [k]) = zns r ++ [(k : Int)] := by simp [zns]
theorem zns_has (r : List Nat) (k : Nat) : (zns r).contains (k : Int) = r.contains k := by
  rw [Bool.eq_iff_iff, List.contains_iff_mem, List.contains_iff_mem]
  unfold zns
  constructor
  · intro h
    obtain ⟨x, hx, e⟩ := List.mem_map.1 h
    obtain rfl : x = k := by omega
    exact hx
  · intro h
    exact List.mem_map.2 ⟨k, h, rfl⟩
theorem ints_get' {w : World} {A : Option Addr} {n c j : Nat} {zs : List Int} {z : Int} (h : Ints .i64 w A n c zs) (hz : zs[j]? = some z) : ∃ b off, A = some ⟨b, off, none⟩ ∧ b < w.heap.size ∧ w.cell? ⟨b, off + j, none⟩ = some (.int .i64 z) := by
  have hj : j < n := by
    have := (List.getElem?_eq_some_iff.1 hz).1
    have := h.1
    omega
  obtain ⟨b, off, z', e, hb, hc, _, _, hz'⟩ := h.at hj
  have := hz'.out
  rw [hz] at this
  injection this with this
  subst this
  exact ⟨b, off, e, hb, hc⟩
def sup1 (ap : List (List Int)) (x : Int) (i : Nat) : Bool := (ap.getD i []).contains x
/-- The voters who approve a project. -/
def supN (ap : List (List Int)) (x : Int) (k : Nat) : List Nat := (List.range k).filter (sup1 ap x)
theorem supN_yes {ap : List (List Int)} {x : Int} {k : Nat} (h : sup1 ap x k = true) : supN ap x (k + 1) = supN ap x k ++ [k] := by
  unfold supN
  rw [List.range_succ, List.filter_append]
  simp [h]
theorem supN_no {ap : List (List Int)} {x : Int} {k : Nat} (h : sup1 ap x k = false) : supN ap x (k + 1) = supN ap x k := by
  unfold supN
  rw [List.range_succ, List.filter_append]
  simp [h]
theorem supN_len (ap : List (List Int)) (x : Int) (k : Nat) : (supN ap x k).length ≤ k := by
  have := List.length_filter_le (sup1 ap x) (List.range k)
  rw [List.length_range] at this
  exact this
theorem supN_mem {ap : List (List Int)} {x : Int} {k i : Nat} (h : i ∈ supN ap x k) : i < k ∧ sup1 ap x i = true := ⟨List.mem_range.1 (List.mem_filter.1 h).1, (List.mem_filter.1 h).2⟩
theorem supN_nodup (ap : List (List Int)) (x : Int) (k : Nat) : (supN ap x k).Nodup := List.Pairwise.filter _ List.nodup_range
set_option maxHeartbeats 1000000 in
theorem supporters_ok (mon : Int) (CA : Option Addr) (m cc : Nat) (AA : Option Addr) (n ac : Nat) (ap : List (List Int)) (x : Int) (w : World) (h : Rws w AA n ac ap) (hn : n ≤ 1000) :
    Calls Try.prog 34 #[.agg #[.int .i64 mon, .slice CA m cc, .slice AA n ac], .int .i64 x] w fun r w' => ∃ O L oc, r = .returned (.slice O L oc) ∧ OwnI w' w.heap.size O L oc (zns (supN ap x n)) ∧ Below w.heap.size w w' := by
  have b0 := bel_alloc w (.cells #[.int .i64 mon, .slice CA m cc, .slice AA n ac] 27)
  have C0 := Cs.new w [.int .i64 mon, .slice CA m cc, .slice AA n ac] 27
  have b1 := bel_alloc (w.alloc (.cells #[.int .i64 mon, .slice CA m cc, .slice AA n ac] 27)) (.cells #[] 2)
  have O1 := Lib.hid ((ownI_lit (w.alloc (.cells #[.int .i64 mon, .slice CA m cc, .slice AA n ac] 27))).mono b0.size)
  have B1 := Lib.hid (bel_trans b0 b1)
  have H := Lib.hid h
  clear h b0 b1 C0
  go_enter Try.func34, Try.ntmps34
  go_wp2_with fail
  go_loopw [5, 12] (fun s t wr => ∃ (k L : Nat) (O : Option Addr) (oc : Nat), k ≤ n ∧ s = .slice O L oc ∧ t = .int .i64 k ∧ OwnI wr w.heap.size O L oc (zns (supN ap x k)) ∧ Below w.heap.size w wr) (fun _ t _ => n - (intOf t).toNat)
  case atStart => exact ⟨0, 0, _, 0, Nat.zero_le _, rfl, rfl, by simpa [supN, zns] using O1.out, B1.out⟩
  case round =>
    obtain ⟨k, L, O, oc, hk, rfl, rfl, ho, hb⟩ := hrel
    have HO := Lib.hid ho
    have HB := Lib.hid hb
    have hL := ho.len
    rw [zns_len] at hL
    have hL2 := supN_len ap x k
    have bsz := hb.size
    clear ho hb O1 B1
    by_cases hlt : k < n
    · have d0 := decide_eq_true (show (k : Int) < (n : Int) by omega)
      have k0 : (0 : Int) ≤ (k : Int) := by omega
      have k1' : (k : Int) < (n : Int) := by omega
      obtain ⟨b, off, A', l, c', zs, rfl, hbw, hc, hi, hz⟩ := (H.out.below HB.out).at hlt
      have HC := Lib.hid (has_any A' l c' zs x wr hi)
      have GE : ap.getD k [] = zs := by rw [List.getD_eq_getElem?_getD, hz.out]; rfl
      clear hi hz
      cases hh : zs.contains x
      · have NX := Lib.hid (supN_no (ap := ap) (x := x) (k := k) (by unfold sup1; rw [GE, hh]))
        rw [hh] at HC
        clear GE hh
        go_wp2_with fail
        refine HC.out.mono ?_
        rintro e w1 ⟨rfl, rfl⟩
        go_wp2_with fail
        go_roundw
        case rel => exact ⟨k + 1, L, O, oc, by omega, rfl, by go_num, by rw [NX.out]; exact HO.out, HB.out⟩
        case measure => simp [intOf]; omega
      · have NX := Lib.hid (supN_yes (ap := ap) (x := x) (k := k) (by unfold sup1; rw [GE, hh]))
        rw [hh] at HC
        clear GE hh
        go_wp2_with fail
        refine HC.out.mono ?_
        rintro e w1 ⟨rfl, rfl⟩
        go_wp2_with (at_builtin; refine app_int wr rfl _ _ rfl w.heap.size O L oc _ rfl HO.out (k : Int) (by omega) (by omega) rfl (by omega) bsz ?_; intro A' c' w3 p1 p2)
        go_roundw
        case rel => exact ⟨k + 1, L + 1, A', c', by omega, rfl, by go_num, by rw [NX.out, zns_snoc]; exact p1, HB.out.grown p2 HB.out.size (fun x hx => (HO.out.block x hx).1)⟩
        case measure => simp [intOf]; omega
    · obtain rfl : n = k := by omega
      go_wp2_with fail
      go_ret
      exact ⟨O, L, oc, rfl, HO.out, HB.out⟩
theorem isProject_ok (CA : Option Addr) (m cc : Nat) (AA : Option Addr) (n ac : Nat) (e : El) (x : Int) (w : World) (h : ElW w CA m cc AA n ac e) (ok : EOk e) (hx : 0 ≤ x ∧ x < m) :
    Calls Try.prog 27 #[.agg #[.int .i64 e.mon, .slice CA m cc, .slice AA n ac], .int .i64 x] w fun r w' => r = .returned (.bool true) ∧ Below w.heap.size w w' := by
  have hm := h.cl
  have h6 := ok.cs1
  have b0 := bel_alloc w (.cells #[.int .i64 e.mon, .slice CA m cc, .slice AA n ac] 27)
  have C0 := (Cs.new w [.int .i64 e.mon, .slice CA m cc, .slice AA n ac] 27)
  have VE := Lib.hid (validEl_ok CA m cc AA n ac e _ (h.below b0) ok)
  have HB0 := Lib.hid b0
  have HC0 := Lib.hid C0
  have i1 := Lib.hid (show inR x 0 ((m : Int) - 1) = true from inR_true.2 (by omega))
  have W1 : IntKind.i64.wrap ((m : Int) - 1) = (m : Int) - 1 := IntWalk.i64_in _ (by omega)
  simp only [List.toArray] at VE HC0
  clear h ok b0 C0
  go_enter Try.func27, Try.ntmps27
  go_wp2_with fail
  refine VE.out.mono ?_
  rintro r w1 ⟨rfl, b1⟩
  have y1 := (HC0.out.below b1).cell 1 rfl
  have B1 := Lib.hid (bel_trans HB0.out b1)
  clear b1
  go_wp2_with fail
  refine (within_val i1.out _).mono ?_
  rintro r w2 ⟨rfl, rfl⟩
  go_wp2_with fail
  go_ret
  exact ⟨rfl, B1.out⟩
theorem supportersOf_ok (CA : Option Addr) (m cc : Nat) (AA : Option Addr) (n ac : Nat) (e : El) (x : Int) (w : World) (h : ElW w CA m cc AA n ac e) (ok : EOk e) (hx : 0 ≤ x ∧ x < m) :
    Calls Try.prog 15 #[.agg #[.int .i64 e.mon, .slice CA m cc, .slice AA n ac], .int .i64 x] w fun r w' => ∃ O L oc, r = .returned (.tuple #[.slice O L oc, .bool true]) ∧ OwnI w' w.heap.size O L oc (zns (supN e.ap x n)) ∧ Below w.heap.size w w' := by
  have hn := h.al
  have a6 := ok.ap1
  have b0 := bel_alloc w (.cells #[.int .i64 e.mon, .slice CA m cc, .slice AA n ac] 27)
  have C0 := (Cs.new w [.int .i64 e.mon, .slice CA m cc, .slice AA n ac] 27)
  have PE := Lib.hid (isProject_ok CA m cc AA n ac e x _ (h.below b0) ok hx)
  have HB0 := Lib.hid b0
  have HC0 := Lib.hid C0
  have HA := Lib.hid h.a
  simp only [List.toArray] at PE HC0
  clear h ok b0 C0
  go_enter Try.func15, Try.ntmps15
  go_wp2_with fail
  refine PE.out.mono ?_
  rintro r w1 ⟨rfl, b1⟩
  have y0 := (HC0.out.below b1).cell 0 rfl
  have y1 := (HC0.out.below b1).cell 1 rfl
  have y2 := (HC0.out.below b1).cell 2 rfl
  have B1 := Lib.hid (bel_trans HB0.out b1)
  have SU := Lib.hid (supporters_ok e.mon CA m cc AA n ac e.ap x w1 (HA.out.below B1.out) (by omega))
  clear b1
  go_wp2_with fail
  refine SU.out.mono ?_
  rintro r w2 ⟨O, L, oc, rfl, ho, b2⟩
  have HO := Lib.hid (ho.mono B1.out.size)
  have B2 := Lib.hid (bel_trans B1.out b2)
  clear ho b2 y0 y1 y2
  go_wp2_with fail
  exact bodyPost_ret (v := .tuple #[.slice O L oc, .bool true]) (by simp [results, Try.results15, go_sem]) rfl ⟨O, L, oc, rfl, HO.out, B2.out⟩
end Go.Proofs.Ytiodbjfchfmlcaa
