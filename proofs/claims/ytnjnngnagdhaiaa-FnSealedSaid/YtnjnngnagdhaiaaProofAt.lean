/- Whether what lies at a place in a block is a proof: the model's answer. -/
import Derived.Test.YtnjnngnagdhaiaaProof2
namespace Go.Proofs.Ytnjnngnagdhaiaa
set_option linter.unusedVariables false
open Go.RowKit
set_option maxRecDepth 100000 in
set_option maxHeartbeats 1000000 in
theorem l09Proof_at (s : Int) (g go : Nat) (A : Option Addr) (n c : Nat) (ms : List Int) (B : Option Addr) (m d : Nat) (cs : List Int) (C : Option Addr) (k f : Nat) (as_ : List Int) (w : World)
    (q0c : w.cell? ⟨g, go, none⟩ = some (.slice A n c)) (q1c : w.cell? ⟨g, go + 1, none⟩ = some (.slice B m d)) (q2c : w.cell? ⟨g, go + 2, none⟩ = some (.slice C k f)) (ltc : g < w.heap.size) (h1 : Ints .i64 w A n c ms) (h2 : Ints .i64 w B m d cs) (h3 : Ints .i64 w C k f as_) :
    Calls Try.prog 64 #[.int .i64 s, .pointer (some ⟨g, go, none⟩)] w fun e w' => e = .returned (.bool (bpB s ms cs as_)) ∧ Below w.heap.size w w' := by
  have e1 := h1.short
  have e2 := h2.short
  have e3 := h3.short
  cases hs : sealB s
  · have HS := Lib.hid hs
    have R : Hid (bpB s ms cs as_ = false) := by show _ = _; simp [bpB, bpPre, hs]
    clear hs
    go_enter Try.func64, Try.ntmps64
    go_wp2_with fail
    refine (l09Seal_any _ _).mono ?_
    rintro e w1 ⟨rfl, rfl⟩
    rw [HS.out]
    go_wp2_with fail
    go_ret
    exact ⟨ret_bool R.out.symm, Below.refl _ _⟩
  · cases hm : allB ms 2 sealB
    · have HM := Lib.hid hm
      have HS := Lib.hid hs
      have R : Hid (bpB s ms cs as_ = false) := by show _ = _; simp [bpB, bpPre, hm]
      clear hs hm
      go_enter Try.func64, Try.ntmps64
      go_wp2_with fail
      refine (l09Seal_any _ _).mono ?_
      rintro e w1 ⟨rfl, rfl⟩
      rw [HS.out]
      go_wp2_with fail
      refine (l09Seals_any A n c ms 2 _ h1).mono ?_
      rintro e w1 ⟨rfl, rfl⟩
      rw [HM.out]
      go_wp2_with fail
      go_ret
      exact ⟨ret_bool R.out.symm, Below.refl _ _⟩
    · cases hc : allB cs 2 expB
      · have HC := Lib.hid hc
        have HS := Lib.hid hs
        have HM := Lib.hid hm
        have R : Hid (bpB s ms cs as_ = false) := by show _ = _; simp [bpB, bpPre, hc]
        clear hs hm hc
        go_enter Try.func64, Try.ntmps64
        go_wp2_with fail
        refine (l09Seal_any _ _).mono ?_
        rintro e w1 ⟨rfl, rfl⟩
        rw [HS.out]
        go_wp2_with fail
        refine (l09Seals_any A n c ms 2 _ h1).mono ?_
        rintro e w1 ⟨rfl, rfl⟩
        rw [HM.out]
        go_wp2_with fail
        refine (l09Exponents_any B m d cs 2 _ h2).mono ?_
        rintro e w1 ⟨rfl, rfl⟩
        rw [HC.out]
        go_wp2_with fail
        go_ret
        exact ⟨ret_bool R.out.symm, Below.refl _ _⟩
      · cases ha : allB as_ 2 expB
        · have HA := Lib.hid ha
          have HS := Lib.hid hs
          have HM := Lib.hid hm
          have HC := Lib.hid hc
          have R : Hid (bpB s ms cs as_ = false) := by show _ = _; simp [bpB, bpPre, ha]
          clear hs hm hc ha
          go_enter Try.func64, Try.ntmps64
          go_wp2_with fail
          refine (l09Seal_any _ _).mono ?_
          rintro e w1 ⟨rfl, rfl⟩
          rw [HS.out]
          go_wp2_with fail
          refine (l09Seals_any A n c ms 2 _ h1).mono ?_
          rintro e w1 ⟨rfl, rfl⟩
          rw [HM.out]
          go_wp2_with fail
          refine (l09Exponents_any B m d cs 2 _ h2).mono ?_
          rintro e w1 ⟨rfl, rfl⟩
          rw [HC.out]
          go_wp2_with fail
          refine (l09Exponents_any C k f as_ 2 _ h3).mono ?_
          rintro e w1 ⟨rfl, rfl⟩
          rw [HA.out]
          go_wp2_with fail
          go_ret
          exact ⟨ret_bool R.out.symm, Below.refl _ _⟩
        · have HS := Lib.hid hs
          have HM := Lib.hid hm
          have HC := Lib.hid hc
          have HA := Lib.hid ha
          obtain ⟨lm, hm2⟩ := allB_true.1 hm
          obtain ⟨lc, hc2⟩ := allB_true.1 hc
          obtain ⟨la, ha2⟩ := allB_true.1 ha
          have bs := sealB_true hs
          have PRE : Hid (bpPre s ms cs as_ = true) := by show _ = _; simp [bpPre, hs, hm, hc, ha]
          obtain rfl : n = 2 := by have := h1.1; omega
          obtain rfl : m = 2 := by have := h2.1; omega
          obtain rfl : k = 2 := by have := h3.1; omega
          obtain ⟨bA, oA, m0, rfl, hbA, cm0, _, _, hm0⟩ := h1.at (j := 0) (by omega)
          obtain ⟨bA', oA', m1, eA, _, cm1, _, _, hm1⟩ := h1.at (j := 1) (by omega)
          obtain ⟨bB, oB, c0, rfl, hbB, cc0, _, _, hc0⟩ := h2.at (j := 0) (by omega)
          obtain ⟨bB', oB', c1, eB, _, cc1, _, _, hc1⟩ := h2.at (j := 1) (by omega)
          obtain ⟨bC, oC, a0, rfl, hbC, ca0, _, _, ha0⟩ := h3.at (j := 0) (by omega)
          obtain ⟨bC', oC', a1, eC, _, ca1, _, _, ha1⟩ := h3.at (j := 1) (by omega)
          simp only [Option.some.injEq, Addr.mk.injEq, and_true] at eA eB eC
          obtain ⟨rfl, rfl⟩ := eA
          obtain ⟨rfl, rfl⟩ := eB
          obtain ⟨rfl, rfl⟩ := eC
          have bm0 := sealB_true (hm2 _ (mem_of_at hm0.out))
          have bm1 := sealB_true (hm2 _ (mem_of_at hm1.out))
          have bc0 := expB_true (hc2 _ (mem_of_at hc0.out))
          have bc1 := expB_true (hc2 _ (mem_of_at hc1.out))
          have ba0 := expB_true (ha2 _ (mem_of_at ha0.out))
          have ba1 := expB_true (ha2 _ (mem_of_at ha1.out))
          have RB : Hid (bpB s ms cs as_ = (((c0 + c1) % 500000003 == chal [s, m0, m1]) && chkI s m0 c0 a0 0 && chkI s m1 c1 a1 1)) := by
            show _ = _
            simp only [bpB, PRE.out, List.getD_eq_getElem?_getD, hm0.out, hm1.out, hc0.out, hc1.out, ha0.out, ha1.out]
            simp
          have MODS : Hid (∀ z ∈ [s, m0, m1], modB z = true) := by
            intro z hz
            simp at hz
            rcases hz with rfl | rfl | rfl <;> exact inR_true.2 ⟨by omega, by omega⟩
          clear hs hm hc ha lm lc la hm2 hc2 ha2
          obtain ⟨ch, hch⟩ : ∃ ch, chal [s, m0, m1] = ch := ⟨_, rfl⟩
          obtain ⟨sm, hsm⟩ : ∃ sm, (c0 + c1) % 500000003 = sm := ⟨_, rfl⟩
          have CH := Lib.hid hch
          have RS : Hid (bpB s ms cs as_ = ((sm == ch) && chkI s m0 c0 a0 0 && chkI s m1 c1 a1 1)) := by
            show _ = _
            rw [RB.out, hch, hsm]
          have W1 : IntKind.i64.wrap (c0 + c1) = c0 + c1 := IntWalk.i64_in _ (by omega)
          have T1 : (c0 + c1).tmod 500000003 = sm := by rw [Int.tmod_eq_emod_of_nonneg (by omega)]; exact hsm
          clear hch hsm RB
          rw [Nat.add_zero] at cm0 cc0 ca0
          have N1 := Lib.hid ((Cs.new w.drew [.int .i64 s, .int .i64 m0, .int .i64 m1] 2).ints (n := 3) [s, m0, m1] rfl rfl (by decide) (by intro z hz; simp at hz; rcases hz with rfl | rfl | rfl <;> omega))
          have b04 := Lib.hid (bel_alloc w (.cells [.int .i64 s, .int .i64 m0, .int .i64 m1].toArray 2))
          have KS1 : Hid (w.cell? ⟨g, go, none⟩ = some (.slice (some ⟨bA, oA, none⟩) 2 c) ∧ w.cell? ⟨g, go + 1, none⟩ = some (.slice (some ⟨bB, oB, none⟩) 2 d) ∧ w.cell? ⟨bA, oA, none⟩ = some (.int .i64 m0) ∧ w.cell? ⟨bA, oA + 1, none⟩ = some (.int .i64 m1) ∧ w.cell? ⟨bB, oB, none⟩ = some (.int .i64 c0) ∧ w.cell? ⟨bB, oB + 1, none⟩ = some (.int .i64 c1)) := ⟨q0c, q1c, cm0, cm1, cc0, cc1⟩
          have b34 := bel_alloc w.drew (.cells [.int .i64 s, .int .i64 m0, .int .i64 m1].toArray 2)
          have KS2 := Lib.hid (show _ ∧ _ ∧ _ ∧ _ ∧ _ ∧ _ from ⟨(b34.cell (p := ⟨g, go, none⟩) ltc).trans q0c, (b34.cell (p := ⟨g, go + 1, none⟩) ltc).trans q1c, (b34.cell (p := ⟨bA, oA, none⟩) hbA).trans cm0, (b34.cell (p := ⟨bA, oA + 1, none⟩) hbA).trans cm1, (b34.cell (p := ⟨bB, oB, none⟩) hbB).trans cc0, (b34.cell (p := ⟨bB, oB + 1, none⟩) hbB).trans cc1⟩)
          clear b34
          go_enter Try.func64, Try.ntmps64
          go_wp2_with fail
          refine (l09Seal_any _ _).mono ?_
          rintro e w1 ⟨rfl, rfl⟩
          rw [HS.out]
          go_wp2_with fail
          refine (l09Seals_any _ _ c ms 2 _ h1).mono ?_
          rintro e w1 ⟨rfl, rfl⟩
          rw [HM.out]
          go_wp2_with fail
          refine (l09Exponents_any _ _ d cs 2 _ h2).mono ?_
          rintro e w1 ⟨rfl, rfl⟩
          rw [HC.out]
          go_wp2_with fail
          refine (l09Exponents_any _ _ f as_ 2 _ h3).mono ?_
          rintro e w1 ⟨rfl, rfl⟩
          rw [HA.out]
          by_cases hq : sm = ch
          · have RQ : Hid (bpB s ms cs as_ = (chkI s m0 c0 a0 0 && chkI s m1 c1 a1 1)) := by show _ = _; rw [RS.out, hq]; simp
            clear RS
            subst hq
            go_wp2_with fail
            go_region_held3 (fun w' => w'.cell? ⟨g, go, none⟩ = some (.slice (some ⟨bA, oA, none⟩) 2 c) ∧ w'.cell? ⟨g, go + 1, none⟩ = some (.slice (some ⟨bB, oB, none⟩) 2 d) ∧ w'.cell? ⟨bA, oA, none⟩ = some (.int .i64 m0) ∧ w'.cell? ⟨bA, oA + 1, none⟩ = some (.int .i64 m1) ∧ w'.cell? ⟨bB, oB, none⟩ = some (.int .i64 c0) ∧ w'.cell? ⟨bB, oB + 1, none⟩ = some (.int .i64 c1)) (first | exact KS1.out | exact KS2.out) (first | (go_at_call 94; refine (l09Challenge_any _ _ _ [s, m0, m1] _ N1.out MODS).mono ?_; rintro e w4 ⟨rfl, rfl⟩; rw [CH.out]))
            go_wp2_with fail
            go_loopw [5] (fun i wr => ((i = .int .i64 0) ∨ (i = .int .i64 1 ∧ Hid (chkI s m0 c0 a0 0 = true)) ∨ (i = .int .i64 2 ∧ Hid (chkI s m0 c0 a0 0 = true) ∧ Hid (chkI s m1 c1 a1 1 = true))) ∧ ∃ q, wr = ((w.alloc (.cells #[.int .i64 s, .int .i64 m0, .int .i64 m1] 2)).drewN q)) (fun i _ => 2 - (intOf i).toNat)
            case atStart => exact ⟨.inl rfl, 1, rfl⟩
            case round =>
              obtain ⟨hi, q, rfl⟩ := hrel
              rcases hi with rfl | ⟨rfl, K0⟩ | ⟨rfl, K0, K1⟩
              ·
                obtain ⟨p1, hp1⟩ : ∃ p1, pw 9 a0.toNat = p1 := ⟨_, rfl⟩
                obtain ⟨o, ho⟩ : ∃ o, openO s 0 = o := ⟨_, rfl⟩
                have bo := openO_bd (s := s) (bit := 0) (by omega) (by omega)
                rw [ho] at bo
                obtain ⟨p2, hp2⟩ : ∃ p2, pw o c0.toNat = p2 := ⟨_, rfl⟩
                have bp1 : 0 ≤ p2 ∧ p2 < 1000000007 := by rw [← hp2]; exact ⟨pw_lo _ _, pw_hi _ _⟩
                obtain ⟨x, hx⟩ : ∃ x, mm m0 p2 = x := ⟨_, rfl⟩
                have CK : Hid (chkI s m0 c0 a0 0 = (p1 == x)) := by show _ = _; rw [← hx, ← hp2, ← ho, ← hp1]; rfl
                have HP1 := Lib.hid hp1
                have HO := Lib.hid ho
                have HP2 := Lib.hid hp2
                have HX := Lib.hid hx
                clear hp1 ho hp2 hx
                by_cases hq : p1 = x
                · have CT : Hid (chkI s m0 c0 a0 0 = true) := by show _ = _; rw [CK.out, hq]; simp
                  clear CK
                  subst hq
                  go_wp2_with fail
                  go_quiet ((first | (go_at_call 96; first | (with_reducible exact quiet_left (l09Power_to HP2.out _ (by omega) (by omega) (by omega) (by omega))) | (with_reducible exact quiet_add_left (l09Power_to HP2.out _ (by omega) (by omega) (by omega) (by omega)))) | (go_at_call 97; first | (with_reducible exact quiet_left (l09Without_to HO.out _ (by omega) (by omega))) | (with_reducible exact quiet_add_left (l09Without_to HO.out _ (by omega) (by omega)))) | (go_at_call 95; first | (with_reducible exact quiet_left (l09Times_to HX.out _ (by omega) (by omega) (by omega) (by omega))) | (with_reducible exact quiet_add_left (l09Times_to HX.out _ (by omega) (by omega) (by omega) (by omega))))))
                  go_wp2_with fail
                  refine (l09Power_to HP1.out _ (by omega) (by omega) (by omega) (by omega)).mono ?_
                  rintro e w' ⟨rfl, rfl⟩
                  go_wp2_with fail
                  go_roundw
                  case rel => exact ⟨.inr (.inl ⟨rfl, CT⟩), _, rfl⟩
                  case measure => simp [intOf]
                · have CT : Hid (chkI s m0 c0 a0 0 = false) := by show _ = _; rw [CK.out]; simp [hq]
                  have hq2 : (p1 == x) = false := by simpa using hq
                  clear CK
                  go_wp2_with fail
                  go_quiet ((first | (go_at_call 96; first | (with_reducible exact quiet_left (l09Power_to HP2.out _ (by omega) (by omega) (by omega) (by omega))) | (with_reducible exact quiet_add_left (l09Power_to HP2.out _ (by omega) (by omega) (by omega) (by omega)))) | (go_at_call 97; first | (with_reducible exact quiet_left (l09Without_to HO.out _ (by omega) (by omega))) | (with_reducible exact quiet_add_left (l09Without_to HO.out _ (by omega) (by omega)))) | (go_at_call 95; first | (with_reducible exact quiet_left (l09Times_to HX.out _ (by omega) (by omega) (by omega) (by omega))) | (with_reducible exact quiet_add_left (l09Times_to HX.out _ (by omega) (by omega) (by omega) (by omega))))))
                  go_wp2_with fail
                  refine (l09Power_to HP1.out _ (by omega) (by omega) (by omega) (by omega)).mono ?_
                  rintro e w' ⟨rfl, rfl⟩
                  go_wp2_with fail
                  go_ret
                  exact ⟨ret_bool (by rw [RQ.out, CT.out]; simp), below_drewN b04.out (q + nq)⟩
              ·
                obtain ⟨p1, hp1⟩ : ∃ p1, pw 9 a1.toNat = p1 := ⟨_, rfl⟩
                obtain ⟨o, ho⟩ : ∃ o, openO s 1 = o := ⟨_, rfl⟩
                have bo := openO_bd (s := s) (bit := 1) (by omega) (by omega)
                rw [ho] at bo
                obtain ⟨p2, hp2⟩ : ∃ p2, pw o c1.toNat = p2 := ⟨_, rfl⟩
                have bp1 : 0 ≤ p2 ∧ p2 < 1000000007 := by rw [← hp2]; exact ⟨pw_lo _ _, pw_hi _ _⟩
                obtain ⟨x, hx⟩ : ∃ x, mm m1 p2 = x := ⟨_, rfl⟩
                have CK : Hid (chkI s m1 c1 a1 1 = (p1 == x)) := by show _ = _; rw [← hx, ← hp2, ← ho, ← hp1]; rfl
                have HP1 := Lib.hid hp1
                have HO := Lib.hid ho
                have HP2 := Lib.hid hp2
                have HX := Lib.hid hx
                clear hp1 ho hp2 hx
                by_cases hq : p1 = x
                · have CT : Hid (chkI s m1 c1 a1 1 = true) := by show _ = _; rw [CK.out, hq]; simp
                  clear CK
                  subst hq
                  go_wp2_with fail
                  go_quiet ((first | (go_at_call 96; first | (with_reducible exact quiet_left (l09Power_to HP2.out _ (by omega) (by omega) (by omega) (by omega))) | (with_reducible exact quiet_add_left (l09Power_to HP2.out _ (by omega) (by omega) (by omega) (by omega)))) | (go_at_call 97; first | (with_reducible exact quiet_left (l09Without_to HO.out _ (by omega) (by omega))) | (with_reducible exact quiet_add_left (l09Without_to HO.out _ (by omega) (by omega)))) | (go_at_call 95; first | (with_reducible exact quiet_left (l09Times_to HX.out _ (by omega) (by omega) (by omega) (by omega))) | (with_reducible exact quiet_add_left (l09Times_to HX.out _ (by omega) (by omega) (by omega) (by omega))))))
                  go_wp2_with fail
                  refine (l09Power_to HP1.out _ (by omega) (by omega) (by omega) (by omega)).mono ?_
                  rintro e w' ⟨rfl, rfl⟩
                  go_wp2_with fail
                  go_roundw
                  case rel => exact ⟨.inr (.inr ⟨rfl, K0, CT⟩), _, rfl⟩
                  case measure => simp [intOf]
                · have CT : Hid (chkI s m1 c1 a1 1 = false) := by show _ = _; rw [CK.out]; simp [hq]
                  have hq2 : (p1 == x) = false := by simpa using hq
                  clear CK
                  go_wp2_with fail
                  go_quiet ((first | (go_at_call 96; first | (with_reducible exact quiet_left (l09Power_to HP2.out _ (by omega) (by omega) (by omega) (by omega))) | (with_reducible exact quiet_add_left (l09Power_to HP2.out _ (by omega) (by omega) (by omega) (by omega)))) | (go_at_call 97; first | (with_reducible exact quiet_left (l09Without_to HO.out _ (by omega) (by omega))) | (with_reducible exact quiet_add_left (l09Without_to HO.out _ (by omega) (by omega)))) | (go_at_call 95; first | (with_reducible exact quiet_left (l09Times_to HX.out _ (by omega) (by omega) (by omega) (by omega))) | (with_reducible exact quiet_add_left (l09Times_to HX.out _ (by omega) (by omega) (by omega) (by omega))))))
                  go_wp2_with fail
                  refine (l09Power_to HP1.out _ (by omega) (by omega) (by omega) (by omega)).mono ?_
                  rintro e w' ⟨rfl, rfl⟩
                  go_wp2_with fail
                  go_ret
                  exact ⟨ret_bool (by rw [RQ.out, CT.out]; simp), below_drewN b04.out (q + nq)⟩
              · go_wp2_with fail
                go_ret
                exact ⟨ret_bool (by rw [RQ.out, K0.out, K1.out]; rfl), below_drewN b04.out _⟩
          · have RQ : Hid (bpB s ms cs as_ = false) := by show _ = _; rw [RS.out]; simp [hq]
            have hq2 : (sm == ch) = false := by simpa using hq
            clear RS
            go_wp2_with fail
            go_region_held3 (fun w' => w'.cell? ⟨g, go, none⟩ = some (.slice (some ⟨bA, oA, none⟩) 2 c) ∧ w'.cell? ⟨g, go + 1, none⟩ = some (.slice (some ⟨bB, oB, none⟩) 2 d) ∧ w'.cell? ⟨bA, oA, none⟩ = some (.int .i64 m0) ∧ w'.cell? ⟨bA, oA + 1, none⟩ = some (.int .i64 m1) ∧ w'.cell? ⟨bB, oB, none⟩ = some (.int .i64 c0) ∧ w'.cell? ⟨bB, oB + 1, none⟩ = some (.int .i64 c1)) (first | exact KS1.out | exact KS2.out) (first | (go_at_call 94; refine (l09Challenge_any _ _ _ [s, m0, m1] _ N1.out MODS).mono ?_; rintro e w4 ⟨rfl, rfl⟩; rw [CH.out]))
            go_wp2_with fail
            go_ret
            exact ⟨ret_bool RQ.out.symm, below_drewN b04.out 1⟩
end Go.Proofs.Ytnjnngnagdhaiaa
