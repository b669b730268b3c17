/- What the library reads lies where it lay; a number that is read. -/
import Derived.Test.YteehbnanjgmliaaDoorRdM
import Derived.Test.YteehbnanjgmliaaDoorShelf
import Derived.Lib.ParseIntBTie
import Derived.Lib.SlicesS
namespace Go.Proofs.YteehbnanjgmliaaDoor
set_option linter.unusedVariables false
set_option linter.unusedSimpArgs false
set_option maxRecDepth 100000
open Go.RowKit Go.Sort
theorem var?_bel {P : Program} {w w' : World} {n : String} {cs : Array Value} (h : w.var? P n = some cs) (b : Below w.heap.size w w') : w'.var? P n = some cs := by
  unfold World.var? at h ⊢
  cases hg : P.globalNamed n with
  | none => simp [hg] at h
  | some g =>
    simp only [hg, Option.bind_some] at h ⊢
    have hlt : g < w.heap.size := by
      rcases Nat.lt_or_ge g w.heap.size with h' | h'
      · exact h'
      · simp [Array.getElem?_eq_none h'] at h
    rw [b.block g hlt]
    exact h
/-- What the library's contracts ask of the world. -/
structure Lb (w : World) : Prop where
  mx : ∃ m : Int, w.cell? ⟨0, 0, none⟩ = some (.int .i64 m)
  sy : ∃ tp p, w.var? Tryd.prog "strconv.ErrSyntax" = some #[.iface tp p]
  rg : ∃ tp p, w.var? Tryd.prog "strconv.ErrRange" = some #[.iface tp p]
  tb : Go.Lib.TabIs Tryd.prog w "internal/strconv.uint64pow10" .u64 Go.Lib.pow10Tab
theorem Lb.below {w w' : World} (h : Lb w) (b : Below w.heap.size w w') : Lb w' := by
  obtain ⟨⟨m, h1⟩, ⟨t1, p1, h2⟩, ⟨t2, p2, h3⟩, h4⟩ := h
  refine ⟨⟨m, ?_⟩, ⟨t1, p1, var?_bel h2 b⟩, ⟨t2, p2, var?_bel h3 b⟩, var?_bel h4 b⟩
  exact (b.cell (p := ⟨0, 0, none⟩) (World.block_lt_of_cell? w _ h1)).trans h1
theorem bel_grow (w : World) (os : Array Obj) : Below w.heap.size w (grow w os) :=
  ⟨rfl, rfl, rfl, by simp [grow], fun k hk => by simp [grow, Array.getElem?_append, hk]⟩
theorem decimal_wide (z : Int) (h0 : -9223372036854775808 ≤ z) (h1 : z ≤ 9223372036854775807) (w : World) (L : Lb w) :
    Calls Tryd.prog 22 #[.int .i64 z] w fun e w' => ∃ t, e = .returned (.string t) ∧ Below w.heap.size w w' := by
  have D := Lib.hid (Tryd.strconv_FormatInt_10 z h0 h1 w L.tb)
  go_enter Tryd.func22, Tryd.ntmps22
  go_wp2_with fail
  refine D.out.mono ?_
  rintro e w1 ⟨rfl, k, os, rfl⟩
  go_wp2_with fail
  go_ret
  exact ⟨_, rfl, bel_trans (below_drewN (Below.refl _ _) k) (bel_grow _ _)⟩
theorem parse_dec : ∀ j : Fin 11, Lib.parseIntB 64 (decT j.1).data.toList = .ok (j.1 : Int) := by decide
theorem readNum_yes (j : Nat) (hj : j ≤ 10) (w : World) :
    Calls Tryd.prog 12 #[.string (decT j), .int .i64 0, .int .i64 10] w fun e w' => e = .returned (.tuple #[.int .i64 j, .bool true]) ∧ Below w.heap.size w w' := by
  have D := Lib.hid (Tryd.strconv_ParseInt_10_at64_ok (decT j) (by have := decT_size j; omega) j (parse_dec ⟨j, by omega⟩) w)
  have E := Lib.hid (decimal_any j hj)
  have Wt := Lib.hid (show inR (j : Int) 0 10 = true by simp [inR]; omega)
  obtain ⟨d, hd⟩ : ∃ d, decT j = d := ⟨_, rfl⟩
  rw [hd] at D E ⊢
  go_enter Tryd.func12, Tryd.ntmps12
  go_wp2_with fail
  refine D.out.mono ?_
  rintro e w1 ⟨rfl, hw⟩
  have B1 : Hid (Below w.heap.size w w1) := by
    rcases hw with rfl | ⟨t, rfl⟩
    · exact Below.refl _ _
    · exact Lib.bytesWorld_below _ _ _
  clear hw
  go_wp2_with fail
  refine (E.out w1).mono ?_
  rintro e w2 ⟨rfl, rfl⟩
  go_wp2_with fail
  refine (within_v Wt.out w1).mono ?_
  rintro e w2 ⟨rfl, rfl⟩
  go_wp2_with fail
  exact bodyPost_ret (v := .tuple #[.int .i64 j, .bool true]) (by simp [results, Tryd.results12, go_sem]) rfl ⟨rfl, B1.out⟩
theorem readNum_any (s : ByteArray) (hs : s.size ≤ 1000) (w : World) (L : Lb w) :
    Calls Tryd.prog 12 #[.string s, .int .i64 0, .int .i64 10] w fun e w' => ∃ (k : Int) (b : Bool), e = .returned (.tuple #[.int .i64 k, .bool b]) ∧ 0 ≤ k ∧ k ≤ 10 ∧ (∀ j : Nat, j ≤ 10 → s = decT j → k = j) ∧ Below w.heap.size w w' := by
  by_cases hj : ∃ j : Nat, j ≤ 10 ∧ s = decT j
  · obtain ⟨j, hj, rfl⟩ := hj
    refine (readNum_yes j hj w).mono ?_
    rintro e w1 ⟨rfl, b1⟩
    refine ⟨j, true, rfl, by omega, by omega, fun i hi e => ?_, b1⟩
    have e1 := parse_dec ⟨j, by omega⟩
    have e2 := parse_dec ⟨i, by omega⟩
    simp only at e1 e2
    rw [e, e2] at e1
    injection e1 with e1
    exact e1.symm
  · have NO := Lib.hid (show ∀ j : Nat, j ≤ 10 → s = decT j → (0 : Int) = j from fun j h1 h2 => absurd ⟨j, h1, h2⟩ hj)
    have NX := Lib.hid (show ∀ k : Int, ∀ j : Nat, j ≤ 10 → s = decT j → k = j from fun k j h1 h2 => absurd ⟨j, h1, h2⟩ hj)
    clear hj
    cases hp : Lib.parseIntB 64 s.data.toList with
    | ok v =>
      have vb := Lib.parseIntB_bounds hp
      have D := Lib.hid (Tryd.strconv_ParseInt_10_at64_ok s (by omega) v hp w)
      have HL := Lib.hid L
      have v0 : -9223372036854775808 ≤ v := by simpa using vb.1
      have v1 : v ≤ 9223372036854775807 := by have := vb.2; simp at this; omega
      clear vb hp L
      go_enter Tryd.func12, Tryd.ntmps12
      go_wp2_with fail
      refine D.out.mono ?_
      rintro e w1 ⟨rfl, hw⟩
      have B1 : Hid (Below w.heap.size w w1) := by
        rcases hw with rfl | ⟨t, rfl⟩
        · exact Below.refl _ _
        · exact Lib.bytesWorld_below _ _ _
      clear hw
      go_wp2_with fail
      refine (decimal_wide v v0 v1 w1 (HL.out.below B1.out)).mono ?_
      rintro e w2 ⟨t, rfl, b2⟩
      have B2 := Lib.hid (bel_trans B1.out b2)
      clear b2 B1
      by_cases ht : t = s
      · subst ht
        by_cases hi : 0 ≤ v ∧ v ≤ 10
        · have Wt := Lib.hid (inR_true.2 hi)
          go_wp2_with fail
          refine (within_v Wt.out w2).mono ?_
          rintro e w3 ⟨rfl, rfl⟩
          go_wp2_with fail
          exact bodyPost_ret (v := .tuple #[.int .i64 v, .bool true]) (by simp [results, Tryd.results12, go_sem]) rfl ⟨v, true, rfl, hi.1, hi.2, NX.out v, B2.out⟩
        · have Wt := Lib.hid (inR_false.2 hi)
          go_wp2_with fail
          refine (within_v Wt.out w2).mono ?_
          rintro e w3 ⟨rfl, rfl⟩
          go_wp2_with fail
          exact bodyPost_ret (v := .tuple #[.int .i64 0, .bool false]) (by simp [results, Tryd.results12, go_sem]) rfl ⟨0, false, rfl, by omega, by omega, NO.out, B2.out⟩
      · have hq : (t.toList == s.toList) = false := (Lib.bytes_beq_false_iff t s).2 ht
        go_wp2_with fail
        exact bodyPost_ret (v := .tuple #[.int .i64 0, .bool false]) (by simp [results, Tryd.results12, go_sem]) rfl ⟨0, false, rfl, by omega, by omega, NO.out, B2.out⟩
    | «syntax» =>
      obtain ⟨tp, p, hv⟩ := L.sy
      have D := Lib.hid (Tryd.strconv_ParseInt_10_at64_syntax_var s (by omega) hp tp p w hv)
      clear hp L hv
      go_enter Tryd.func12, Tryd.ntmps12
      go_wp2_with fail
      refine D.out.mono ?_
      rintro e w1 ⟨N, rfl, hN, hN2, b1⟩
      have B1 := Lib.hid b1
      clear b1 hN2
      go_wp2_with fail
      exact bodyPost_ret (v := .tuple #[.int .i64 0, .bool false]) (by simp [results, Tryd.results12, go_sem]) rfl ⟨0, false, rfl, by omega, by omega, NO.out, B1.out⟩
    | range =>
      obtain ⟨tp, p, hv⟩ := L.rg
      have D := Lib.hid (Tryd.strconv_ParseInt_10_at64_range_var s (by omega) hp tp p w hv)
      clear hp L hv
      go_enter Tryd.func12, Tryd.ntmps12
      go_wp2_with fail
      refine D.out.mono ?_
      rintro e w1 ⟨N, rfl, hN, hN2, b1⟩
      have B1 := Lib.hid b1
      clear b1 hN2
      go_wp2_with fail
      exact bodyPost_ret (v := .tuple #[.int .i64 0, .bool false]) (by simp [results, Tryd.results12, go_sem]) rfl ⟨0, false, rfl, by omega, by omega, NO.out, B1.out⟩
end Go.Proofs.YteehbnanjgmliaaDoor
