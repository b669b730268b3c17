/- Marks on articles, held; assemblies compared, marked, held. -/
import Derived.Test.YtcoladhppbknnaaAsm3
namespace Go.Proofs.Ytcoladhppbknnaa
set_option linter.unusedVariables false
set_option linter.unusedSimpArgs false
set_option maxRecDepth 100000
open Go.RowKit Go.Deep
def mkR (k j : Nat) : List Value := [.int .i64 ((k + 2 * j : Nat) : Int), .string (mtX (k + 2 * j + 1))]
def mkL (k n : Nat) : List (List Value) := (List.range n).map (mkR k)
theorem mkL_len (k n : Nat) : (mkL k n).length = n := by simp [mkL]
theorem mkL_at {k n j : Nat} (h : j < n) : (mkL k n)[j]? = some (mkR k j) := by simp [mkL, List.getElem?_map, List.getElem?_range h]
theorem mk_step {k n j : Nat} {rs : List (List Value)} (hl : rs.length = n) (hj : j < n) : (mkL k j ++ rs.drop j).set j (mkR k j) = mkL k (j + 1) ++ rs.drop (j + 1) := by
  rw [List.set_append_right _ _ (by rw [mkL_len]; omega), mkL_len, Nat.sub_self]
  obtain ⟨r, hr⟩ : ∃ r, rs[j]? = some r := ⟨_, List.getElem?_eq_getElem (by omega)⟩
  rw [List.drop_eq_getElem_cons (by omega), List.set_cons_zero]
  unfold mkL
  rw [List.range_succ, List.map_append, List.append_assoc]
  rfl
set_option maxHeartbeats 1000000 in
theorem markArticleS_any (t lo hi : Nat) (A : Option Addr) (n c : Nat) (rs : List (List Value)) (k : Nat) (w : World) (h : RR t 2 lo hi w A n c rs) (hn : n ≤ 1048576) (k1 : 1 ≤ k) (k2 : k ≤ 1000000) :
    Calls Try.prog 19 #[.slice A n c, .int .i64 k] w fun x w' => x = .returned (.int .i64 ((k + 2 * n : Nat) : Int)) ∧ RR t 2 lo hi w' A n c (mkL k n) ∧ Only lo hi w w' := by
  have H := Lib.hid h
  have hrl := h.own.2.1
  clear h
  go_enter Try.func19, Try.ntmps19
  go_wp2_with fail
  go_loopw [1, 5] (fun q i wr => ∃ j : Nat, j ≤ n ∧ i = .int .i64 j ∧ q = .int .i64 ((k + 2 * j : Nat) : Int) ∧ RR t 2 lo hi wr A n c (mkL k j ++ rs.drop j) ∧ Only lo hi w wr) (fun _ i _ => n - (intOf i).toNat)
  case atStart => exact ⟨0, Nat.zero_le _, rfl, rfl, H.out, Only.refl _ _ _⟩
  case round =>
    obtain ⟨j, hj, rfl, rfl, hr, ho⟩ := hrel
    have HR := Lib.hid hr
    have HO := Lib.hid ho
    clear hr ho
    by_cases hlt : j < n
    · have d0 := decide_eq_true (show (j : Int) < (n : Int) by omega)
      have j0 : (0 : Int) ≤ (j : Int) := by omega
      have j1 : (j : Int) < (n : Int) := by omega
      obtain ⟨g, rfl, hg1, hg2⟩ := HR.out.own.form (by omega)
      have hgh := HR.out.top g rfl
      have hl : j < (mkL k j ++ rs.drop j).length := by rw [HR.out.own.2.1]; exact hlt
      obtain ⟨r, hr⟩ : ∃ r, (mkL k j ++ rs.drop j)[j]? = some r := ⟨_, List.getElem?_eq_getElem hl⟩
      have r2 := HR.out.own.2.2 r (List.mem_of_getElem? hr)
      obtain ⟨x0, x1, rfl⟩ : ∃ x0 x1, r = [x0, x1] := by
        match r, r2 with
        | [a, b], _ => exact ⟨a, b, rfl⟩
      have y0 := HR.out.own.cell (i := 0) hr rfl
      have f0 := HR.out.own.free (j * 2)
      rw [Nat.add_zero] at y0
      have P0 := Lib.hid (HR.out.own.put (i := 0) (.int .i64 ((k + 2 * j : Nat) : Int)) hr (by omega))
      obtain ⟨q, hq⟩ : ∃ q, q = k + 2 * j := ⟨_, rfl⟩
      rw [← hq] at P0
      rw [← hq]
      have MT : Hid (∀ W : World, Calls Try.prog 61 #[.int .i64 ((q : Int) + 1)] W fun e w' => e = .returned (.string (mtX (q + 1))) ∧ Below W.heap.size W w') := by
        intro W
        have := markText_any (q + 1) (by omega) (by omega) W
        rwa [show ((q + 1 : Nat) : Int) = (q : Int) + 1 by omega] at this
      have q9 : q ≤ 3100000 := by omega
      have HQ := Lib.hid hq
      clear hq
      go_wp2_with fail
      refine (MT.out _).mono ?_
      rintro e w2 ⟨rfl, b2⟩
      have P1 := (P0.out.1.below (w' := w2) b2)
      have O1 := (Only.of_grown (lo := lo) (hi := hi) P0.out.2 (fun x hx => by injection hx with hx; subst hx; exact ⟨hg1, hgh⟩)).trans (Only.of_below (lo := lo) (hi := hi) b2)
      have hr1 : ((mkL k j ++ rs.drop j).set j ([x0, x1].set 0 (.int .i64 (q : Int))))[j]? = some [.int .i64 (q : Int), x1] := List.getElem?_set_self hl
      have y1 := P1.cell (i := 1) hr1 rfl
      have f1 := P1.free (j * 2 + 1)
      have P2 := Lib.hid (P1.put (i := 1) (.string (mtX (q + 1))) hr1 (by omega))
      have OO := Lib.hid (HO.out.trans O1)
      clear P1 O1 y0 f0
      go_wp2_with fail
      go_roundw
      case rel =>
        refine ⟨j + 1, by omega, by go_num, by rw [HQ.out]; go_num, ?_, OO.out.trans (Only.of_grown (lo := lo) (hi := hi) P2.out.2 (fun x hx => by injection hx with hx; subst hx; exact ⟨hg1, hgh⟩))⟩
        refine ⟨?_, HR.out.top⟩
        have := P2.out.1
        rw [List.set_set] at this
        have e9 : [Value.int .i64 (q : Int), x1].set 1 (.string (mtX (q + 1))) = mkR k j := by rw [HQ.out]; rfl
        rw [e9, mk_step hrl hlt] at this
        exact this
      case measure => simp [intOf]; omega
    · obtain rfl : n = j := by omega
      have d0 := decide_eq_false (show ¬ (n : Int) < (n : Int) by omega)
      go_wp2_with fail
      go_ret
      refine ⟨rfl, ?_, HO.out⟩
      have := HR.out
      rw [List.drop_eq_nil_of_le (by omega), List.append_nil] at this
      exact this
end Go.Proofs.Ytcoladhppbknnaa
