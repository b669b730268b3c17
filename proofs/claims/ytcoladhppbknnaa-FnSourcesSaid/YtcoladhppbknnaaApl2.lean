/- Patches: made, applied, inverted, composed. -/
import Derived.Test.YtcoladhppbknnaaApl
namespace Go.Proofs.Ytcoladhppbknnaa
set_option linter.unusedVariables false
set_option linter.unusedSimpArgs false
set_option maxRecDepth 100000
open Go.RowKit Go.Deep
theorem ed4 {es : List Ed} : ∀ r ∈ es.map Ed.vals, r.length = 4 := by
  intro r hr
  obtain ⟨e, _, rfl⟩ := List.mem_map.1 hr
  rfl
theorem ed1 {es : List Ed} : ∀ r ∈ es.map Ed.vals, ∀ u ∈ r, u.oneCell' = true := by
  intro r hr u hu
  obtain ⟨e, _, rfl⟩ := List.mem_map.1 hr
  simp [Ed.vals] at hu
  rcases hu with rfl | rfl | rfl | rfl <;> rfl
theorem ar2 {es : List Ar} : ∀ r ∈ es.map Ar.vals, r.length = 2 := by
  intro r hr
  obtain ⟨e, _, rfl⟩ := List.mem_map.1 hr
  rfl
theorem ar1 {es : List Ar} : ∀ r ∈ es.map Ar.vals, ∀ u ∈ r, u.oneCell' = true := by
  intro r hr u hu
  obtain ⟨e, _, rfl⟩ := List.mem_map.1 hr
  simp [Ar.vals] at hu
  rcases hu with rfl | rfl <;> rfl
theorem info_ed : (Try.prog.info? 74).map (fun i => (i.zero, i.size, i.bytes)) = some (some (.agg #[.int .i64 0, .int .i64 0, .string ByteArray.empty, .string ByteArray.empty]), 4, 48) := by kernel_rfl
/-- Edits that the call made. -/
def EdsO (w : World) (base : Nat) (A : Option Addr) (n c : Nat) (es : List Ed) : Prop := OwnR 74 4 w base A n c (es.map Ed.vals)
theorem EdsO.len {w : World} {base n c : Nat} {A : Option Addr} {es : List Ed} (h : EdsO w base A n c es) : es.length = n := by have := h.2.1; simpa using this
theorem EdsO.eds {w : World} {base n c : Nat} {A : Option Addr} {es : List Ed} (h : EdsO w base A n c es) (ok : ∀ e ∈ es, EdOk e) : Eds w A n c es := ⟨OwnR.recs h, ok⟩
theorem small_i64 {x : Int} (h : -1000 ≤ x ∧ x ≤ 1000) : I64 x := by unfold I64; omega
theorem senB_size {t : ByteArray} (h : senB t = true) : t.size ≤ 24 := by
  unfold senB at h
  simp only [Bool.and_eq_true, decide_eq_true_eq] at h
  exact h.2.1.1.2
theorem txt_size {t : ByteArray} (h : Txt t) : t.size ≤ 9223372036854775807 := by
  rcases h with rfl | h
  · decide
  · have := senB_size h; omega
theorem ed_ok {e : Ed} (h : edB e = true) (hr : 1 ≤ e.id ∧ e.id ≤ 99) : EdOk e := by
  have ht := ed_txt h
  refine ⟨small_i64 ?_, small_i64 (by omega), txt_size ht.1, txt_size ht.2.1⟩
  rcases edB_cases h with ⟨k, _⟩ | ⟨k, _⟩ | ⟨k, _⟩ <;> omega
theorem POk.ok {p : List Ed} (h : POk p) : ∀ e ∈ p, EdOk e := fun e he => ed_ok (h.ed e he) (h.rng e he)
theorem SOk.ok {s : List Ar} (h : SOk s) : ∀ a ∈ s, ArOk a := fun a ha => ⟨small_i64 (by have := h.rng a ha; omega), txt_size (.inr (h.txt a ha))⟩
theorem edit_ok (id : Int) (old new : ByteArray) (w : World) :
    Calls Try.prog 77 #[.int .i64 id, .string old, .string new] w fun e w' => ∃ A L c, e = .returned (.slice A L c) ∧ L = (edL id old new).length ∧ Recs 4 w' A L c ((edL id old new).map Ed.vals) ∧ Below w.heap.size w w' := by
  unfold edL
  by_cases h : old = new
  · subst h
    have e1 : (old.toList == old.toList) = true := by simp
    go_enter Try.func77, Try.ntmps77
    go_wp2_with fail
    go_ret
    exact ⟨none, 0, 0, rfl, by simp, by simpa using recs_nil _ _, Below.refl _ _⟩
  · rw [if_neg h]
    have e1 : (old.toList == new.toList) = false := by rw [beq_eq_false_iff_ne]; exact fun hh => h (bytes_ext.1 hh)
    unfold stp
    clear h
    have REC := Lib.hid (fun (e : Ed) => (show Recs 4 (w.alloc (.cells #[.int .i64 e.kind, .int .i64 e.id, .string e.old, .string e.new] 74)) (some ⟨w.heap.size, 0, none⟩) 1 1 ([e].map Ed.vals) from
      (ownR_lits (t := 74) (s := 4) (rs := [e].map Ed.vals) w ed4 (by unfold maxLen; simp)).recs))
    by_cases h1 : old = ByteArray.empty
    · rw [if_pos h1]
      subst h1
      have e4 : new.toList.isEmpty = false := by
        rw [Bool.eq_false_iff]
        intro hh
        rw [bytes_mt.1 hh] at e1
        simp at e1
      have ba := Lib.hid (bel_alloc w (.cells #[.int .i64 1, .int .i64 id, .string ByteArray.empty, .string new] 74))
      go_enter Try.func77, Try.ntmps77
      go_wp2_with fail
      go_ret
      exact ⟨_, 1, 1, rfl, rfl, REC.out ⟨1, id, ByteArray.empty, new⟩, ba.out⟩
    · rw [if_neg h1]
      have e2 : old.toList.isEmpty = false := by rw [Bool.eq_false_iff]; exact fun hh => h1 (bytes_mt.1 hh)
      have e3 : (old.toList == (⟨#[]⟩ : ByteArray).toList) = false := by rw [beq_eq_false_iff_ne]; exact fun hh => h1 (bytes_ext.1 hh)
      clear h1
      by_cases h2 : new = ByteArray.empty
      · rw [if_pos h2]
        subst h2
        have ba := Lib.hid (bel_alloc w (.cells #[.int .i64 2, .int .i64 id, .string old, .string ByteArray.empty] 74))
        go_enter Try.func77, Try.ntmps77
        go_wp2_with fail
        go_ret
        exact ⟨_, 1, 1, rfl, rfl, REC.out ⟨2, id, old, ByteArray.empty⟩, ba.out⟩
      · rw [if_neg h2]
        have e4 : new.toList.isEmpty = false := by rw [Bool.eq_false_iff]; exact fun hh => h2 (bytes_mt.1 hh)
        have e5 : (new.toList == (⟨#[]⟩ : ByteArray).toList) = false := by rw [beq_eq_false_iff_ne]; exact fun hh => h2 (bytes_ext.1 hh)
        have ba := Lib.hid (bel_alloc w (.cells #[.int .i64 3, .int .i64 id, .string old, .string new] 74))
        clear h2
        go_enter Try.func77, Try.ntmps77
        go_wp2_with fail
        go_ret
        exact ⟨_, 1, 1, rfl, rfl, REC.out ⟨3, id, old, new⟩, ba.out⟩
theorem patB_of {p : List Ed} (h : POk p) (hl : p.length ≤ 16) : patB p = true := by
  unfold patB
  rw [Bool.and_eq_true]
  refine ⟨List.all_eq_true.2 fun k hk => ?_, decide_eq_true hl⟩
  have hk := List.mem_range.1 hk
  have hg : p[k]? = some p[k] := List.getElem?_eq_getElem hk
  have hm : p[k] ∈ p := List.getElem_mem _
  rw [patK_at hg, h.ed _ hm, inR_true.2 (h.rng _ hm), Bool.true_and, Bool.true_and]
  rcases Nat.eq_zero_or_pos k with h0 | h0
  · rw [decide_eq_true h0, Bool.true_or]
  · have hp : p[k - 1]? = some p[k - 1] := List.getElem?_eq_getElem (by omega)
    rw [getD_ed hp, decide_eq_true (List.pairwise_iff_getElem.1 h.srt (k - 1) k (by omega) hk (by omega)), Bool.or_true]
theorem staB_of {p : List Ar} (h : SOk p) (hl : p.length ≤ 8) : staB p = true := by
  unfold staB
  rw [Bool.and_eq_true]
  refine ⟨List.all_eq_true.2 fun k hk => ?_, decide_eq_true hl⟩
  have hk := List.mem_range.1 hk
  have hg : p[k]? = some p[k] := List.getElem?_eq_getElem hk
  have hm : p[k] ∈ p := List.getElem_mem _
  rw [staK_at hg, h.txt _ hm, inR_true.2 (h.rng _ hm), Bool.true_and, Bool.true_and]
  rcases Nat.eq_zero_or_pos k with h0 | h0
  · rw [decide_eq_true h0, Bool.true_or]
  · have hp : p[k - 1]? = some p[k - 1] := List.getElem?_eq_getElem (by omega)
    rw [getD_ar hp, decide_eq_true (List.pairwise_iff_getElem.1 h.srt (k - 1) k (by omega) hk (by omega)), Bool.or_true]
theorem edL_len (id : Int) (a b : ByteArray) : (edL id a b).length ≤ 1 := by unfold edL; split <;> simp
theorem Gs_len {f : Nat → List Ed} (h : One f) (n : Nat) : (Gs f n).length ≤ n := by
  induction n with
  | zero => simp [Gs]
  | succ n ih =>
    rw [Gs_succ, List.length_append]
    have : (f n).length ≤ 1 := by rcases h n with h0 | ⟨e, h0, _⟩ <;> rw [h0] <;> simp
    omega
theorem edsO_lit (w : World) : EdsO (w.alloc (.cells #[] 74)) w.heap.size (some ⟨w.heap.size, 0, none⟩) 0 0 [] := ownR_lits (rs := []) w (by simp) (by unfold maxLen; simp)
theorem EdsO.run {w : World} {base n c : Nat} {A : Option Addr} {es : List Ed} (h : EdsO w base A n c es) (ty : TypeId) (B : Option Addr) (m d : Nat) (qs : List Ed) (hr : Recs 4 w B m d (qs.map Ed.vals)) (hn : n ≤ 1000) (hm : m ≤ 1000) (hb : base ≤ w.heap.size) :
    ∃ A' c' w', (Builtin.append_ #[28, 28] ty #[.slice A n c, .slice B m d]).run Try.prog w = .ok (.slice A' (n + m) c') w' ∧ OwnR 74 4 w' base A' (n + m) c' (es.map Ed.vals ++ qs.map Ed.vals) ∧ w.grownBy w' (Value.slice A n c).ownBlock := by
  obtain ⟨i0, hi, hz0, hz1, hz2⟩ := info_parts info_ed
  exact run_app_recs w ty 28 74 base i0 _ 4 48 Try.underlying28 hi hz0 hz1 hz2 rfl (by omega) A n c _ h B m d _ hr ed4 ed1 (by unfold maxLen; omega) (by omega) hb
theorem EdsO.snoc {w : World} {base n m c : Nat} {A : Option Addr} {es qs : List Ed} (h : OwnR 74 4 w base A (n + m) c (es.map Ed.vals ++ qs.map Ed.vals)) : EdsO w base A (n + m) c (es ++ qs) := by
  unfold EdsO
  rw [List.map_append]
  exact h
theorem invL_take {p : List Ed} {k : Nat} {e : Ed} (h : p[k]? = some e) : invL (p.take (k + 1)) = invL (p.take k) ++ edL e.id e.new e.old := by
  rw [take_snoc' h]
  unfold invL
  rw [List.flatMap_append]
  simp
theorem invL_le (p : List Ed) : (invL p).length ≤ p.length := by
  induction p with
  | nil => exact Nat.le_refl _
  | cons e p ih =>
    rw [invL_cons, List.length_append, List.length_cons]
    have := edL_len e.id e.new e.old
    omega
set_option maxHeartbeats 1000000 in
theorem inverse_ok (A : Option Addr) (n c : Nat) (p : List Ed) (w : World) (h : Eds w A n c p) (hp : POk p) (hl : p.length ≤ 16) :
    Calls Try.prog 30 #[.slice A n c] w fun e w' => ∃ O L oc, e = .returned (.tuple #[.slice O L oc, .bool true]) ∧ EdsO w' w.heap.size O L oc (invL p) ∧ Below w.heap.size w w' := by
  obtain rfl : p.length = n := h.len
  have HA := Lib.hid h
  have VP := Lib.hid (ValidPatch_any A p.length c p w h)
  rw [patB_of hp hl] at VP
  clear h
  go_enter Try.func30, Try.ntmps30
  go_wp2_with fail
  refine VP.out.mono ?_
  rintro e w1 ⟨rfl, b1⟩
  have O0 := Lib.hid (edsO_lit w1)
  have B1 := Lib.hid (bel_trans b1 (bel_alloc w1 (.cells #[] 74)))
  have S1 := Lib.hid b1.size
  clear b1 VP
  go_wp2_with fail
  go_loopw [4, 13] (fun s t wr => ∃ (k L : Nat) (O : Option Addr) (oc : Nat), k ≤ p.length ∧ s = .slice O L oc ∧ t = .int .i64 k ∧ EdsO wr w.heap.size O L oc (invL (p.take k)) ∧ Below w.heap.size w wr) (fun _ t _ => p.length - (intOf t).toNat)
  case atStart => exact ⟨0, 0, _, 0, Nat.zero_le _, rfl, rfl, OwnR.mono O0.out S1.out, B1.out⟩
  case round =>
    obtain ⟨k, L, O, oc, hk, rfl, rfl, ho, hb⟩ := hrel
    have HO := Lib.hid ho
    have HB := Lib.hid hb
    have hL := ho.len
    have hL2 := invL_le (p.take k)
    rw [hL, List.length_take] at hL2
    clear ho hb O0 B1 hL
    by_cases hlt : k < p.length
    · have d0 := decide_eq_true (show (k : Int) < (p.length : Int) by omega)
      obtain ⟨b, off, a, rfl, hbw, ha, hok, c0, c1, c2, c3⟩ := (HA.out.below HB.out).at hlt
      have k0 : (0 : Int) ≤ (k : Int) := by omega
      have k1 : (k : Int) < (p.length : Int) := by omega
      have NX := Lib.hid (invL_take ha.out)
      have bx := bel_alloc wr (.cells #[.int .i64 a.kind, .int .i64 a.id, .string a.old, .string a.new] 74)
      have C := Cs.new wr [.int .i64 a.kind, .int .i64 a.id, .string a.old, .string a.new] 74
      have y1 := C.cell 1 rfl
      have y2 := C.cell 2 rfl
      have y3 := C.cell 3 rfl
      have ED := Lib.hid (edit_ok a.id a.new a.old (wr.alloc (.cells #[.int .i64 a.kind, .int .i64 a.id, .string a.old, .string a.new] 74)))
      have B2 := Lib.hid (bel_trans HB.out bx)
      have O2 := Lib.hid (OwnR.below HO.out bx)
      clear C bx
      go_wp2_with fail
      refine ED.out.mono ?_
      rintro e w3 ⟨Q, m, d, rfl, hm, hq, b3⟩
      have m1 := edL_len a.id a.new a.old
      rw [← hm] at m1
      have HM := Lib.hid hm
      have B3 := Lib.hid (bel_trans B2.out b3)
      have O3 := Lib.hid (OwnR.below O2.out b3)
      have RUN := Lib.hid (EdsO.run (A := O) (n := L) (c := oc) O3.out 28 Q m d _ hq (by omega) (by omega) B3.out.size)
      clear hm hq b3 ED y1 y2 y3
      go_wp2_with (at_builtin; refine app_recs w3 rfl _ _ 28 74 rfl O L oc rfl Q m d rfl RUN.out ?_; intro A' c' w4 p1 p2)
      go_roundw
      case rel => exact ⟨k + 1, L + m, A', c', by omega, rfl, by go_num, by rw [NX.out]; exact EdsO.snoc p1, B3.out.grown p2 B3.out.size (fun x hx => (OwnR.block O3.out x hx).1)⟩
      case measure => simp [intOf]; omega
    · obtain rfl : p.length = k := by omega
      have d0 := decide_eq_false (show ¬ (p.length : Int) < (p.length : Int) by omega)
      have HO2 := HO.out
      rw [List.take_of_length_le (Nat.le_refl _)] at HO2
      have HO3 := Lib.hid HO2
      clear HO2
      go_wp2_with fail
      go_ret2
      exact ⟨O, L, oc, rfl, HO3.out, HB.out⟩
set_option maxHeartbeats 1000000 in
theorem diff_ok (A : Option Addr) (n c : Nat) (s : List Ar) (B : Option Addr) (m d : Nat) (t : List Ar) (w : World) (h : Ars w A n c s) (k : Ars w B m d t) (hs : SOk s) (hsl : s.length ≤ 8) (ht : SOk t) (htl : t.length ≤ 8) :
    Calls Try.prog 26 #[.slice A n c, .slice B m d] w fun e w' => ∃ O L oc, e = .returned (.tuple #[.slice O L oc, .bool true]) ∧ EdsO w' w.heap.size O L oc (Gs (diffF s t) 99) ∧ Below w.heap.size w w' := by
  have HA := Lib.hid h
  have HK := Lib.hid k
  have VS := Lib.hid (ValidStatute_any A n c s w h)
  rw [staB_of hs hsl] at VS
  clear h k
  go_enter Try.func26, Try.ntmps26
  go_wp2_with fail
  refine VS.out.mono ?_
  rintro e w1 ⟨rfl, b1⟩
  have B1 := Lib.hid b1
  have VT := Lib.hid (ValidStatute_any B m d t w1 (HK.out.below b1))
  rw [staB_of ht htl] at VT
  clear b1 VS
  go_wp2_with fail
  refine VT.out.mono ?_
  rintro e w2 ⟨rfl, b2⟩
  have O0 := Lib.hid (edsO_lit w2)
  have S2 := Lib.hid (bel_trans B1.out b2).size
  have B2 := Lib.hid (bel_trans (bel_trans B1.out b2) (bel_alloc w2 (.cells #[] 74)))
  clear b2 VT B1
  go_wp2_with fail
  go_loopw [6, 7] (fun s6 t7 wr => ∃ (k L : Nat) (O : Option Addr) (oc : Nat), k ≤ 99 ∧ s6 = .slice O L oc ∧ t7 = .int .i64 ((k : Int) + 1) ∧ EdsO wr w.heap.size O L oc (Gs (diffF s t) k) ∧ Below w.heap.size w wr) (fun _ t _ => 100 - (intOf t).toNat)
  case atStart => exact ⟨0, 0, _, 0, Nat.zero_le _, rfl, rfl, OwnR.mono O0.out S2.out, B2.out⟩
  case round =>
    obtain ⟨k, L, O, oc, hk, rfl, rfl, ho, hb⟩ := hrel
    have HO := Lib.hid ho
    have HB := Lib.hid hb
    have hL := ho.len
    have hL2 := Gs_len (diff_one s t) k
    rw [hL] at hL2
    clear ho hb O0 B2 hL
    by_cases hlt : k < 99
    · have d0 := decide_eq_true (show (k : Int) + 1 ≤ 99 by omega)
      have T1 := Lib.hid (textOf_ok A n c s ((k : Int) + 1) wr (HA.out.below HB.out))
      have ew : IntKind.i64.wrap ((k : Int) + 1 + 1) = (k : Int) + 1 + 1 := IntWalk.i64_in _ (by omega)
      go_wp2_with fail
      refine T1.out.mono ?_
      rintro e w3 ⟨rfl, b3⟩
      have B3 := Lib.hid (bel_trans HB.out b3)
      have O3 := Lib.hid (OwnR.below HO.out b3)
      clear b3 T1
      go_wp2_with fail
      refine (textOf_ok B m d t ((k : Int) + 1) w3 (HK.out.below B3.out)).mono ?_
      rintro e w4 ⟨rfl, b4⟩
      have B4 := Lib.hid (bel_trans B3.out b4)
      have O4 := Lib.hid (OwnR.below O3.out b4)
      clear b4
      go_wp2_with fail
      refine (edit_ok ((k : Int) + 1) (fnd s ((k : Int) + 1)) (fnd t ((k : Int) + 1)) w4).mono ?_
      rintro e w5 ⟨Q, q, qd, rfl, hm, hq, b5⟩
      have m1 := edL_len ((k : Int) + 1) (fnd s ((k : Int) + 1)) (fnd t ((k : Int) + 1))
      rw [← hm] at m1
      have B5 := Lib.hid (bel_trans B4.out b5)
      have O5 := Lib.hid (OwnR.below O4.out b5)
      have RUN := Lib.hid (EdsO.run (A := O) (n := L) (c := oc) O5.out 28 Q q qd _ hq (by omega) (by omega) B5.out.size)
      clear hm hq b5
      go_wp2_with (at_builtin; refine app_recs w5 rfl _ _ 28 74 rfl O L oc rfl Q q qd rfl RUN.out ?_; intro A' c' w6 p1 p2)
      go_roundw
      case rel => exact ⟨k + 1, L + q, A', c', by omega, rfl, by push_cast; rfl, by rw [Gs_succ]; exact EdsO.snoc p1, B5.out.grown p2 B5.out.size (fun x hx => (OwnR.block O5.out x hx).1)⟩
      case measure => simp [intOf]; omega
    · obtain rfl : k = 99 := by omega
      go_wp2_with fail
      go_ret2
      exact ⟨O, L, oc, rfl, HO.out, HB.out⟩
end Go.Proofs.Ytcoladhppbknnaa
