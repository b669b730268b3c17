/- Assemblies compared, marked, held. -/
import Derived.Test.YtcoladhppbknnaaAsm4
namespace Go.Proofs.Ytcoladhppbknnaa
set_option linter.unusedVariables false
set_option linter.unusedSimpArgs false
set_option maxRecDepth 100000
open Go.RowKit Go.Deep
set_option maxHeartbeats 1000000 in
theorem heldArticleS_any (t base : Nat) (A : Option Addr) (n c : Nat) (k : Nat) (w : World) (h : OwnR t 2 w base A n c (mkL k n)) (hn : n ≤ 1048576) (k1 : 1 ≤ k) (k2 : k ≤ 1000000) :
    Calls Try.prog 66 #[.slice A n c, .int .i64 k] w fun x w' => x = .returned (.int .i64 ((k + 2 * n : Nat) : Int)) ∧ Below w.heap.size w w' := by
  have H := Lib.hid h
  clear h
  go_enter Try.func66, Try.ntmps66
  go_wp2_with fail
  go_loopw [1, 5] (fun q i wr => ∃ j : Nat, j ≤ n ∧ i = .int .i64 j ∧ q = .int .i64 ((k + 2 * j : Nat) : Int) ∧ Below w.heap.size w wr) (fun _ i _ => n - (intOf i).toNat)
  case atStart => exact ⟨0, Nat.zero_le _, rfl, rfl, Below.refl _ _⟩
  case round =>
    obtain ⟨j, hj, rfl, rfl, hb⟩ := hrel
    have HB := Lib.hid hb
    clear hb
    by_cases hlt : j < n
    · have d0 := decide_eq_true (show (j : Int) < (n : Int) by omega)
      have j0 : (0 : Int) ≤ (j : Int) := by omega
      have j1 : (j : Int) < (n : Int) := by omega
      have HH := Lib.hid (H.out.below HB.out)
      obtain ⟨g, rfl, hg1, hb⟩ := HH.out.form (by omega)
      have y0 := HH.out.cell (i := 0) (mkL_at hlt) rfl
      have y1 := HH.out.cell (i := 1) (mkL_at hlt) rfl
      rw [Nat.add_zero] at y0
      obtain ⟨q, hq⟩ : ∃ q, q = k + 2 * j := ⟨_, rfl⟩
      rw [← hq] at y0
      rw [← hq]
      have MT : Hid (∀ W : World, Calls Try.prog 61 #[.int .i64 ((q : Int) + 1)] W fun e w' => e = .returned (.string (mtX (k + 2 * j + 1))) ∧ Below W.heap.size W w') := by
        intro W
        have := markText_any (q + 1) (by omega) (by omega) W
        rw [show ((q + 1 : Nat) : Int) = (q : Int) + 1 by omega, hq] at this
        rw [hq]
        exact this
      have q9 : q ≤ 3100000 := by omega
      have ne0 : ((q : Int) != (q : Int)) = false := by simp
      have ne1 : ((mtX (k + 2 * j + 1)).toList == (mtX (k + 2 * j + 1)).toList) = true := by simp
      have HQ := Lib.hid hq
      clear hq
      go_wp2_with fail
      refine wp_region_noPanic ?_
      refine wp_region_R (inFirst (fun W => Below wr.heap.size wr W ∧ W.cell? ⟨g, j * 2 + 1, none⟩ = some (.string (mtX (k + 2 * j + 1)))) 8) (by kernel_rfl) ?_
      have SS := Lib.hid (fun (W : World) (hW : Below wr.heap.size wr W) => (show Below wr.heap.size wr W ∧ W.cell? ⟨g, j * 2 + 1, none⟩ = some (.string (mtX (k + 2 * j + 1))) from ⟨hW, (hW.cell (p := ⟨g, j * 2 + 1, none⟩) hb).trans y1⟩))
      have hS := SS.out wr.drew ⟨rfl, rfl, rfl, Nat.le_refl _, fun _ _ => rfl⟩
      refine anyR_take (i := 0) (.slice (some ⟨g, 0, none⟩) n c) rfl (by kernel_rfl) (by kernel_rfl) (by kernel_rfl) (by kernel_rfl) (fun _ _ _ h => h) (by assumption) ⟨by rfl, ?_⟩ ?_
      · intro W hW
        go_simp
      try simp only [Act.put, List.setIfInBounds_toArray, List.set_cons_zero, List.set_cons_succ, List.getElem_toArray, List.getElem_cons_zero, List.getElem_cons_succ]
      refine anyR_take (i := 1) (.int .i64 j) rfl (by kernel_rfl) (by kernel_rfl) (by kernel_rfl) (by kernel_rfl) (fun _ _ _ h => h) (by assumption) ⟨by rfl, ?_⟩ ?_
      · intro W hW
        go_simp
      try simp only [Act.put, List.setIfInBounds_toArray, List.set_cons_zero, List.set_cons_succ, List.getElem_toArray, List.getElem_cons_zero, List.getElem_cons_succ]
      refine anyR_take (i := 2) (.pointer (some ⟨g, j * 2, none⟩)) rfl (by kernel_rfl) (by kernel_rfl) (by kernel_rfl) (by kernel_rfl) (fun _ _ _ h => h) (by assumption) ⟨by rfl, ?_⟩ ?_
      · intro W hW
        go_simp
      try simp only [Act.put, List.setIfInBounds_toArray, List.set_cons_zero, List.set_cons_succ, List.getElem_toArray, List.getElem_cons_zero, List.getElem_cons_succ]
      refine anyR_take (i := 3) (.pointer (some ⟨g, j * 2 + 1, none⟩)) rfl (by kernel_rfl) (by kernel_rfl) (by kernel_rfl) (by kernel_rfl) (fun _ _ _ h => h) (by assumption) ⟨by rfl, ?_⟩ ?_
      · intro W hW
        go_simp
      try simp only [Act.put, List.setIfInBounds_toArray, List.set_cons_zero, List.set_cons_succ, List.getElem_toArray, List.getElem_cons_zero, List.getElem_cons_succ]
      refine anyR_take (i := 4) (.string (mtX (k + 2 * j + 1))) rfl (by kernel_rfl) (by kernel_rfl) (by kernel_rfl) (by kernel_rfl) (fun _ _ _ h => h) (by assumption) ⟨by rfl, ?_⟩ ?_
      · intro W hW
        go_simp
      try simp only [Act.put, List.setIfInBounds_toArray, List.set_cons_zero, List.set_cons_succ, List.getElem_toArray, List.getElem_cons_zero, List.getElem_cons_succ]
      refine anyR_take (i := 5) (.int .i64 ((q : Int) + 1)) rfl (by kernel_rfl) (by kernel_rfl) (by kernel_rfl) (by kernel_rfl) (fun _ _ _ h => h) (by assumption) ⟨by rfl, ?_⟩ ?_
      · intro W hW
        go_simp
      try simp only [Act.put, List.setIfInBounds_toArray, List.set_cons_zero, List.set_cons_succ, List.getElem_toArray, List.getElem_cons_zero, List.getElem_cons_succ]
      refine anyR_one (i := 6) (by kernel_rfl) rfl ?_
      intro K hK
      go_simp
      go_at_call 61
      refine (MT.out _).mono ?_
      rintro x w9 ⟨rfl, u9⟩
      have hT := SS.out _ (bel_trans hS.1 u9)
      refine hK.out _ _ (fun _ => hT) ?_
      clear hS u9
      have hS := hT
      clear hT
      clear hK K
      try simp only [Act.put, List.setIfInBounds_toArray, List.set_cons_zero, List.set_cons_succ, List.getElem_toArray, List.getElem_cons_zero, List.getElem_cons_succ]
      refine anyR_take (i := 7) (.bool false) rfl (by kernel_rfl) (by kernel_rfl) (by kernel_rfl) (by kernel_rfl) (fun _ _ _ h => h) (by assumption) ⟨by rfl, ?_⟩ ?_
      · intro W hW
        go_simp
      try simp only [Act.put, List.setIfInBounds_toArray, List.set_cons_zero, List.set_cons_succ, List.getElem_toArray, List.getElem_cons_zero, List.getElem_cons_succ]
      refine anyR_done (by kernel_rfl) ?_ _
      refine NoPanic.normal ?_
      have BU := Lib.hid hS.1
      clear hS SS
      go_wp2_with fail
      go_roundw
      case rel => exact ⟨j + 1, by omega, by go_num, by rw [HQ.out]; go_num, bel_trans HB.out BU.out⟩
      case measure => simp [intOf]; omega
    · obtain rfl : n = j := by omega
      have d0 := decide_eq_false (show ¬ (n : Int) < (n : Int) by omega)
      go_wp2_with fail
      go_ret
      exact ⟨rfl, HB.out⟩
theorem RR.tight {t s lo hi : Nat} {w : World} {A : Option Addr} {n c : Nat} {rs : List (List Value)} (h : RR t s lo hi w A n c rs) :
    ∃ g, RR t s g (g + 1) w A n c rs ∧ ((Value.slice A n c).ownBlock = some g ∧ lo ≤ g ∧ g < hi ∨ (Value.slice A n c).ownBlock = none ∧ g = w.heap.size) := by
  rcases h.own.1.2 with ⟨hv, hn⟩ | ⟨g, cap, cur, hv, hb, rest⟩
  · have e : (Value.slice A n c).ownBlock = none := by rw [hv]; rfl
    exact ⟨w.heap.size, ⟨⟨⟨h.own.1.1, .inl ⟨hv, hn⟩⟩, h.own.2⟩, fun g hg => by rw [e] at hg; cases hg⟩, .inr ⟨e, rfl⟩⟩
  · have e : (Value.slice A n c).ownBlock = some g := by rw [hv]; rfl
    exact ⟨g, ⟨⟨⟨h.own.1.1, .inr ⟨g, cap, cur, hv, Nat.le_refl g, rest⟩⟩, h.own.2⟩, fun x hx => by rw [e] at hx; injection hx with hx; omega⟩, .inl ⟨e, hb, h.top g e⟩⟩
theorem Only.weak {lo hi g : Nat} {w w' : World} (o : Only g (g + 1) w w') (h : lo ≤ g ∧ g < hi ∨ w.heap.size ≤ g) : Only lo hi w w' :=
  ⟨o.os, o.tape, o.output, o.size, fun k hk hd => o.block k hk (by omega)⟩
/-- A marked assembly's value. -/
def AsM (lo hi : Nat) (w : World) (M k n : Nat) (v : Value) : Prop :=
  ∃ rl TA tc BA bc trs, v = .agg #[.int .i64 0, .int .i64 rl, .slice TA M tc, .slice BA n bc, .slice none 0 0, .slice none 0 0] ∧ RR 22 1 lo hi w TA M tc trs ∧ (∀ r ∈ trs, ∃ X c', r = [.slice X 0 c']) ∧ RR 70 2 lo hi w BA n bc (mkL k n)
theorem As.below {lo hi : Nat} {w w' : World} {rl : Int} {M : Nat} {rs : List Ar} {v : Value} (h : As lo hi w rl M rs v) (hb : Below w.heap.size w w') : As lo hi w' rl M rs v := by
  obtain ⟨TA, tc, BA, bc, trs, e, h1, h2, h3⟩ := h
  exact ⟨TA, tc, BA, bc, trs, e, h1.below hb, h2, h3.below hb⟩
theorem As.only {lo hi lo' hi' : Nat} {w w' : World} {rl : Int} {M : Nat} {rs : List Ar} {v : Value} (h : As lo hi w rl M rs v) (o : Only lo' hi' w w') (hd : hi ≤ lo' ∨ hi' ≤ lo) : As lo hi w' rl M rs v := by
  obtain ⟨TA, tc, BA, bc, trs, e, h1, h2, h3⟩ := h
  exact ⟨TA, tc, BA, bc, trs, e, h1.only o hd, h2, h3.only o hd⟩
theorem AsM.below {lo hi : Nat} {w w' : World} {M k n : Nat} {v : Value} (h : AsM lo hi w M k n v) (hb : Below w.heap.size w w') : AsM lo hi w' M k n v := by
  obtain ⟨rl, TA, tc, BA, bc, trs, e, h1, h2, h3⟩ := h
  exact ⟨rl, TA, tc, BA, bc, trs, e, h1.below hb, h2, h3.below hb⟩
set_option maxHeartbeats 1000000 in
theorem eqAssembly_same {l1 h1 l2 h2 : Nat} (rl : Int) (M : Nat) (rs : List Ar) (ok : ∀ a ∈ rs, ArOk a) (v1 v2 : Value) (w : World) (h : As l1 h1 w rl M rs v1) (k : As l2 h2 w rl M rs v2) :
    Calls Try.prog 17 #[v1, v2] w fun x w' => x = .returned (.bool true) ∧ Below w.heap.size w w' := by
  obtain ⟨TA, tc, BA, bc, trs, rfl, a1, a2, a3⟩ := h
  obtain ⟨TB, td, BB, bd, urs, rfl, c1, c2, c3⟩ := k
  have b1 := bel_alloc w (.cells #[.int .i64 0, .int .i64 rl, .slice TA M tc, .slice BA rs.length bc, .slice none 0 0, .slice none 0 0] 41)
  have b2 := bel_alloc (w.alloc (.cells #[.int .i64 0, .int .i64 rl, .slice TA M tc, .slice BA rs.length bc, .slice none 0 0, .slice none 0 0] 41)) (.cells #[.int .i64 0, .int .i64 rl, .slice TB M td, .slice BB rs.length bd, .slice none 0 0, .slice none 0 0] 41)
  have C := (Cs.new w [.int .i64 0, .int .i64 rl, .slice TA M tc, .slice BA rs.length bc, .slice none 0 0, .slice none 0 0] 41).below b2
  have D := Cs.new (w.alloc (.cells #[.int .i64 0, .int .i64 rl, .slice TA M tc, .slice BA rs.length bc, .slice none 0 0, .slice none 0 0] 41)) [.int .i64 0, .int .i64 rl, .slice TB M td, .slice BB rs.length bd, .slice none 0 0, .slice none 0 0] 41
  have hs1 : (w.alloc (.cells #[.int .i64 0, .int .i64 rl, .slice TA M tc, .slice BA rs.length bc, .slice none 0 0, .slice none 0 0] 41)).heap.size = w.heap.size + 1 := by simp
  rw [hs1] at D
  have bz := bel_trans b1 b2
  have A1 := Lib.hid (a1.own.below bz)
  have A3 := Lib.hid ((a3.own.below bz).ars ok)
  have K1 := Lib.hid (c1.own.below bz)
  have K3 := Lib.hid ((c3.own.below bz).ars ok)
  have BZ := Lib.hid bz
  have A2 := Lib.hid a2
  have K2 := Lib.hid c2
  clear a1 a2 a3 c1 c2 c3 b1 b2 hs1 bz
  have c0 := C.cell 0 rfl
  have d0 := D.cell 0 rfl
  have c1 := C.cell 1 rfl
  have d1 := D.cell 1 rfl
  have c2 := C.cell 2 rfl
  have d2 := D.cell 2 rfl
  have c3 := C.cell 3 rfl
  have d3 := D.cell 3 rfl
  have c4 := C.cell 4 rfl
  have d4 := D.cell 4 rfl
  have c5 := C.cell 5 rfl
  have d5 := D.cell 5 rfl
  have HC := Lib.hid C
  have HD := Lib.hid D
  clear C D
  have e1 : (rl != rl) = false := by simp
  go_enter Try.func17, Try.ntmps17
  go_wp2_with fail
  refine (eqInt64SS_emp TA M tc trs TB td urs _ A1.out A2.out K1.out K2.out).mono ?_
  rintro e w4 ⟨rfl, b4⟩
  have C4 := Lib.hid (HC.out.below b4)
  have D4 := Lib.hid (HD.out.below b4)
  have A4 := Lib.hid (A3.out.below b4)
  have K4 := Lib.hid (K3.out.below b4)
  have B4 := Lib.hid (bel_trans BZ.out b4)
  clear b4 HC HD c0 d0 c1 d1 c2 d2 c3 d3 c4 d4 c5 d5
  have c3 := C4.out.cell 3 rfl
  have d3 := D4.out.cell 3 rfl
  go_wp2_with fail
  refine (eqArticleS_same BA rs.length bc BB bd rs _ A4.out K4.out).mono ?_
  rintro e w5 ⟨rfl, b5⟩
  have C5 := Lib.hid (C4.out.below b5)
  have D5 := Lib.hid (D4.out.below b5)
  have B5 := Lib.hid (bel_trans B4.out b5)
  clear b5 C4 D4 c3 d3
  have c4 := C5.out.cell 4 rfl
  have d4 := D5.out.cell 4 rfl
  have c5 := C5.out.cell 5 rfl
  have d5 := D5.out.cell 5 rfl
  go_wp2_with fail
  refine (eqActS_none _).mono ?_
  rintro e w6 ⟨rfl, rfl⟩
  go_wp2_with fail
  refine (eqMotionS_none _).mono ?_
  rintro e w6 ⟨rfl, rfl⟩
  go_wp2_with fail
  go_ret
  exact ⟨rfl, B5.out⟩
set_option maxHeartbeats 1000000 in
theorem markAssembly_any {lo hi : Nat} (rl : Int) (M : Nat) (rs : List Ar) (hn : rs.length ≤ 1048576) (v : Value) (k : Nat) (k1 : 1 ≤ k) (k2 : k ≤ 1000000) (w : World) (hh : hi ≤ w.heap.size) (h : As lo hi w rl M rs v) :
    Calls Try.prog 20 #[v, .int .i64 k] w fun x w' => x = .returned (.int .i64 ((k + 2 * rs.length : Nat) : Int)) ∧ AsM lo hi w' M k rs.length v ∧ Only lo hi w w' := by
  obtain ⟨TA, tc, BA, bc, trs, rfl, a1, a2, a3⟩ := h
  have b1 := bel_alloc w (.cells #[.int .i64 0, .int .i64 rl, .slice TA M tc, .slice BA rs.length bc, .slice none 0 0, .slice none 0 0] 41)
  have C := Lib.hid (Cs.new w [.int .i64 0, .int .i64 rl, .slice TA M tc, .slice BA rs.length bc, .slice none 0 0, .slice none 0 0] 41)
  have A1 := Lib.hid (a1.below b1)
  have A3 := Lib.hid (a3.below b1)
  have A2 := Lib.hid a2
  have B1 := Lib.hid (Only.of_below b1 lo hi)
  clear a1 a2 a3 b1
  have c2 := C.out.cell 2 rfl
  have c3 := C.out.cell 3 rfl
  go_enter Try.func20, Try.ntmps20
  go_wp2_with fail
  refine (markInt64SS_emp TA M tc trs k _ A1.out.own A2.out).mono ?_
  rintro e w4 ⟨rfl, rfl⟩
  go_wp2_with fail
  obtain ⟨g, rt, hg⟩ := A3.out.tight
  have hsz : (w.alloc (.cells #[.int .i64 0, .int .i64 rl, .slice TA M tc, .slice BA rs.length bc, .slice none 0 0, .slice none 0 0] 41)).heap.size = w.heap.size + 1 := by simp
  refine (markArticleS_any 70 g (g + 1) BA rs.length bc _ k _ rt hn k1 k2).mono ?_
  rintro e w5 ⟨rfl, r5, o5⟩
  have C5 := Lib.hid (C.out.only o5 (by rcases hg with hg | hg; omega; omega))
  have A5 : Hid (RR 22 1 lo hi w5 TA M tc trs) := by
    refine ⟨⟨own_only A1.out.own.1 fun x hx => o5.block x (A1.out.own.block x hx).2 ?_, A1.out.own.2⟩, A1.out.top⟩
    rcases hg with hg | hg
    · rcases own_ne A1.out.own.1 A3.out.own.1 (by decide) with h0 | h0
      · rw [h0] at hx; cases hx
      · rw [hx, hg.1] at h0
        have : x ≠ g := fun e => h0 (by rw [e])
        omega
    · have := (A1.out.own.block x hx).2
      omega
  have RW : RR 70 2 lo hi w5 BA rs.length bc (mkL k rs.length) := by
    refine ⟨?_, A3.out.top⟩
    rcases hg with hg | hg
    · exact r5.own.mono hg.2.1
    · rcases r5.own.1.2 with ⟨hv, hn⟩ | ⟨x, cap, cur, hv, hb, rest⟩
      · exact ⟨⟨r5.own.1.1, .inl ⟨hv, hn⟩⟩, r5.own.2⟩
      · rw [hv] at hg
        exact absurd hg.1 (by simp [Value.ownBlock])
  replace r5 := RW
  replace o5 := o5.weak (lo := lo) (hi := hi) (by rcases hg with hg | hg; omega; omega)
  clear RW rt hg
  have R5 := Lib.hid r5
  have O5 := Lib.hid (B1.out.trans o5)
  clear r5 o5 c2 c3
  have c4 := C5.out.cell 4 rfl
  have c5 := C5.out.cell 5 rfl
  go_wp2_with fail
  refine (markActS_none _ _).mono ?_
  rintro e w6 ⟨rfl, rfl⟩
  go_wp2_with fail
  refine (markMotionS_none _ _).mono ?_
  rintro e w6 ⟨rfl, rfl⟩
  go_wp2_with fail
  go_ret
  exact ⟨rfl, ⟨rl, TA, tc, BA, bc, trs, rfl, A5.out, A2.out, R5.out⟩, O5.out⟩
set_option maxHeartbeats 1000000 in
theorem heldAssembly_any {lo hi : Nat} (M k n : Nat) (hn : n ≤ 1048576) (v : Value) (k1 : 1 ≤ k) (k2 : k ≤ 1000000) (w : World) (h : AsM lo hi w M k n v) :
    Calls Try.prog 21 #[v, .int .i64 k] w fun x w' => x = .returned (.int .i64 ((k + 2 * n : Nat) : Int)) ∧ Below w.heap.size w w' := by
  obtain ⟨rl, TA, tc, BA, bc, trs, rfl, a1, a2, a3⟩ := h
  have b1 := bel_alloc w (.cells #[.int .i64 0, .int .i64 rl, .slice TA M tc, .slice BA n bc, .slice none 0 0, .slice none 0 0] 41)
  have C := Lib.hid (Cs.new w [.int .i64 0, .int .i64 rl, .slice TA M tc, .slice BA n bc, .slice none 0 0, .slice none 0 0] 41)
  have A1 := Lib.hid (a1.own.below b1)
  have A3 := Lib.hid (a3.own.below b1)
  have A2 := Lib.hid a2
  have B1 := Lib.hid b1
  clear a1 a2 a3 b1
  have c2 := C.out.cell 2 rfl
  have c3 := C.out.cell 3 rfl
  have d0 := decide_eq_false (show ¬ (k : Int) < 0 by omega)
  have d1 := decide_eq_false (show ¬ ((k + 2 * n : Nat) : Int) < 0 by omega)
  go_enter Try.func21, Try.ntmps21
  go_wp2_with fail
  refine (heldInt64SS_emp TA M tc trs k (by omega) _ A1.out A2.out).mono ?_
  rintro e w4 ⟨rfl, rfl⟩
  go_wp2_with fail
  refine (heldArticleS_any 70 _ BA n bc k _ A3.out hn k1 k2).mono ?_
  rintro e w5 ⟨rfl, b5⟩
  have C5 := Lib.hid (C.out.below b5)
  have B5 := Lib.hid (bel_trans B1.out b5)
  clear b5 c2 c3
  have c4 := C5.out.cell 4 rfl
  have c5 := C5.out.cell 5 rfl
  obtain ⟨K, hK⟩ : ∃ x : Int, ((k + 2 * n : Nat) : Int) = x := ⟨_, rfl⟩
  rw [hK] at d1
  rw [hK]
  have HK := Lib.hid hK
  clear hK
  go_wp2_with fail
  refine (heldActS_none _ _).mono ?_
  rintro e w6 ⟨rfl, rfl⟩
  go_wp2_with fail
  refine (heldMotionS_none _ _).mono ?_
  rintro e w6 ⟨rfl, rfl⟩
  go_wp2_with fail
  go_ret
  exact ⟨by rw [HK.out]; rfl, B5.out⟩
end Go.Proofs.Ytcoladhppbknnaa
