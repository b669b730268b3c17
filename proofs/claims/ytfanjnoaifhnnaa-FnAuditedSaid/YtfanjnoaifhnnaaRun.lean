/- Audits: contracts of the program's RunAudit and of the model's, and the law. -/
import Derived.Test.YtfanjnoaifhnnaaRunLaw
import Derived.Test.YtfanjnoaifhnnaaCells
import Derived.Deep.RegionHeld3
import Derived.Deep.DeepCutAuto
namespace Go.Proofs.Ytfanjnoaifhnnaa
set_option linter.unusedVariables false
open Go.RowKit
set_option maxRecDepth 100000 in
set_option maxHeartbeats 2000000 in
theorem specRunAudit_any (A : Option Addr) (n c : Nat) (rep : List Int) (B : Option Addr) (m d : Nat) (act : List Int) (C : Option Addr) (l f : Nat) (ws : List Int) (key ln ld : Int) (w : World)
    (h : Ints .i64 w A n c rep) (k : Ints .i64 w B m d act) (q : Ints .i64 w C l f ws) :
    Calls Try.prog 43 #[.slice A n c, .slice B m d, .slice C l f, .int .i64 key, .agg #[.int .i64 ln, .int .i64 ld]] w fun e w' => e = .returned (auVal (auRes rep act ws key ln ld)) ∧ Below w.heap.size w w' := by
  have hl := Lib.hid h.1
  have kl := Lib.hid k.1
  have ql := Lib.hid q.1
  have C0 := Cs.new w [.int .i64 ln, .int .i64 ld] 52
  have b0 := bel_alloc w (.cells [.int .i64 ln, .int .i64 ld].toArray 52)
  have h0 := h.below b0
  have k0 := k.below b0
  have q0' := q.below b0
  have q0a := C0.cell 0 rfl
  have q1a := C0.cell 1 rfl
  have lta := C0.1
  cases h1 : votesB rep ws
  · have R := Lib.hid (au_no (rep := rep) (act := act) (ws := ws) (key := key) (ln := ln) (ld := ld) (by simp [auOk, h1]))
    have H1 := Lib.hid h1
    clear h1
    go_enter Try.func43, Try.ntmps43
    go_wp2_with fail
    refine (l09Votes_any A n c rep C l f ws _ h0 q0').mono ?_
    rintro e w1 ⟨rfl, rfl⟩
    rw [H1.out]
    go_wp2_with fail
    go_ret3
    exact ⟨au_ret R.out, b0⟩
  · cases h2 : votesB act ws
    · have R := Lib.hid (au_no (rep := rep) (act := act) (ws := ws) (key := key) (ln := ln) (ld := ld) (by simp [auOk, h2]))
      have H1 := Lib.hid h1
      have H2 := Lib.hid h2
      clear h1 h2
      go_enter Try.func43, Try.ntmps43
      go_wp2_with fail
      refine (l09Votes_any A n c rep C l f ws _ h0 q0').mono ?_
      rintro e w1 ⟨rfl, rfl⟩
      rw [H1.out]
      go_wp2_with fail
      refine (l09Votes_any B m d act C l f ws _ k0 q0').mono ?_
      rintro e w1 ⟨rfl, rfl⟩
      rw [H2.out]
      go_wp2_with fail
      go_ret3
      exact ⟨au_ret R.out, b0⟩
    · cases h3 : inR key 0 2147483646
      · have R := Lib.hid (au_no (rep := rep) (act := act) (ws := ws) (key := key) (ln := ln) (ld := ld) (by simp [auOk, h3]))
        have H1 := Lib.hid h1
        have H2 := Lib.hid h2
        have H3 := Lib.hid h3
        clear h1 h2 h3
        go_enter Try.func43, Try.ntmps43
        go_wp2_with fail
        refine (l09Votes_any A n c rep C l f ws _ h0 q0').mono ?_
        rintro e w1 ⟨rfl, rfl⟩
        rw [H1.out]
        go_wp2_with fail
        refine (l09Votes_any B m d act C l f ws _ k0 q0').mono ?_
        rintro e w1 ⟨rfl, rfl⟩
        rw [H2.out]
        go_wp2_with fail
        refine (l00In_val H3.out _).mono ?_
        rintro e w1 ⟨rfl, rfl⟩
        go_wp2_with fail
        go_ret3
        exact ⟨au_ret R.out, b0⟩
      · cases h4 : okF ln ld
        · have R := Lib.hid (au_no (rep := rep) (act := act) (ws := ws) (key := key) (ln := ln) (ld := ld) (by simp [auOk, h4]))
          have H1 := Lib.hid h1
          have H2 := Lib.hid h2
          have H3 := Lib.hid h3
          have H4 := Lib.hid h4
          clear h1 h2 h3 h4
          go_enter Try.func43, Try.ntmps43
          go_wp2_with fail
          refine (l09Votes_any A _ c rep C _ f ws _ h0 q0').mono ?_
          rintro e w1 ⟨rfl, rfl⟩
          rw [H1.out]
          go_wp2_with fail
          refine (l09Votes_any B _ d act C _ f ws _ k0 q0').mono ?_
          rintro e w1 ⟨rfl, rfl⟩
          rw [H2.out]
          go_wp2_with fail
          refine (l00In_val H3.out _).mono ?_
          rintro e w1 ⟨rfl, rfl⟩
          go_wp2_with fail
          refine (l01Ok_any _ _ _).mono ?_
          rintro e w1 ⟨rfl, t1⟩
          rw [H4.out]
          have b1 := bel_trans b0 t1
          have C1 := C0.below t1
          have q0b := C1.cell 0 rfl
          have q1b := C1.cell 1 rfl
          have ltb := C1.1
          go_wp2_with fail
          go_ret3
          exact ⟨au_ret R.out, b1⟩
        · have OK : auOk rep act ws key ln ld = true := by simp [auOk, h1, h2, h3, h4]
          obtain ⟨g1, g2, g3, g4⟩ := votesB_true hl.out h1
          obtain ⟨g5, g6, g7, g8⟩ := votesB_true kl.out h2
          have hm := marg_le hl.out h1
          have hc := marg_cut rep ws
          have key1 := inR_true.1 h3
          have mem0 := auditL_mem (key := key) (n := (rep.length : Int)) (by omega) key1.1
          obtain rfl : l = n := ql.out.symm.trans g3
          obtain rfl : m = l := by have := ql.out; omega
          have LR := hl.out
          have MEM := Lib.hid mem0
          have LM := Lib.hid (fun W (hh : Ints .i64 W A m c rep) (qq : Ints .i64 W C m f ws) => l09Margin_any A m c rep C f ws W hh qq h1)
          have LS := Lib.hid (fun (x : Int) W (x0 : 0 ≤ x) (x1 : x ≤ (m : Int)) => l09Sample_any (m : Int) x ln ld W (by omega) (by omega) x0 x1 h4)
          have H1 := Lib.hid h1
          have H2 := Lib.hid h2
          have H3 := Lib.hid h3
          have H4 := Lib.hid h4
          have HOK := Lib.hid OK
          have G2 := Lib.hid g2
          have G4 := Lib.hid g4
          have G6 := Lib.hid g6
          obtain ⟨mg, hmg⟩ : ∃ x, marg rep ws = x := ⟨_, rfl⟩
          rw [hmg] at hm hc LM
          have HMG := Lib.hid hmg
          obtain ⟨ar, har⟩ : ∃ x, adopt rep ws = x := ⟨_, rfl⟩
          obtain ⟨aa, haa⟩ : ∃ x, adopt act ws = x := ⟨_, rfl⟩
          have AR := Lib.hid har
          have AA := Lib.hid haa
          clear h1 h2 h3 h4 g2 g3 g4 g6 g7 g8 OK mem0 hmg har haa
          by_cases hneg : mg < 0
          · have R := Lib.hid ((au_none HOK.out (by rw [HMG.out]; exact hneg)).trans (by rw [AR.out]))
            go_enter Try.func43, Try.ntmps43
            go_wp2_with fail
            refine (l09Votes_any A _ c rep C _ f ws _ h0 q0').mono ?_
            rintro e w1 ⟨rfl, rfl⟩
            rw [H1.out]
            go_wp2_with fail
            refine (l09Votes_any B _ d act C _ f ws _ k0 q0').mono ?_
            rintro e w1 ⟨rfl, rfl⟩
            rw [H2.out]
            go_wp2_with fail
            refine (l00In_val H3.out _).mono ?_
            rintro e w1 ⟨rfl, rfl⟩
            go_wp2_with fail
            refine (l01Ok_any _ _ _).mono ?_
            rintro e w1 ⟨rfl, t1⟩
            rw [H4.out]
            have b1 := bel_trans b0 t1
            have C1 := C0.below t1
            have q0b := C1.cell 0 rfl
            have q1b := C1.cell 1 rfl
            have ltb := C1.1
            go_wp2_with fail
            refine (LM.out _ (h.below b1) (q.below b1)).mono ?_
            rintro e w2 ⟨rfl, t2⟩
            have b2 := bel_trans b1 t2
            go_wp2_with fail
            refine (l09Adopted_any A m c rep C f ws _ (h.below b2) (q.below b2) G2 G4 g1).mono ?_
            rintro e w3 ⟨rfl, t3⟩
            have b3 := bel_trans b2 t3
            rw [AR.out]
            go_wp2_with fail
            go_ret3
            exact ⟨au_ret R.out, b3⟩
          · have HNG := Lib.hid hneg
            have bmg : 0 ≤ mg ∧ mg ≤ (m : Int) := ⟨by omega, hm⟩
            obtain ⟨sm, hsm⟩ : ∃ x, sampI (m : Int) mg ln ld = x := ⟨_, rfl⟩
            have SM : auSm rep ws ln ld = sm := by unfold auSm; rw [LR, HMG.out]; exact hsm
            have bsm := sampF_in (m : Int) mg ln ld ((m : Int) + 1).toNat 0
            have SB : sm = -1 ∨ 0 ≤ sm ∧ sm ≤ (m : Int) := by rw [← hsm]; unfold sampI; omega
            have HSM := Lib.hid hsm
            have LS1 := Lib.hid (fun W => LS.out mg W bmg.1 bmg.2)
            rw [hsm] at LS1
            have HS := Lib.hid SM
            clear hsm SM bsm LS
            by_cases hs : sm < 0
            · have R := Lib.hid (au_small HOK.out (by rw [HMG.out]; exact hneg) (by rw [HS.out]; exact hs))
              go_enter Try.func43, Try.ntmps43
              go_wp2_with fail
              refine (l09Votes_any A _ c rep C _ f ws _ h0 q0').mono ?_
              rintro e w1 ⟨rfl, rfl⟩
              rw [H1.out]
              go_wp2_with fail
              refine (l09Votes_any B _ d act C _ f ws _ k0 q0').mono ?_
              rintro e w1 ⟨rfl, rfl⟩
              rw [H2.out]
              go_wp2_with fail
              refine (l00In_val H3.out _).mono ?_
              rintro e w1 ⟨rfl, rfl⟩
              go_wp2_with fail
              refine (l01Ok_any _ _ _).mono ?_
              rintro e w1 ⟨rfl, t1⟩
              rw [H4.out]
              have b1 := bel_trans b0 t1
              have C1 := C0.below t1
              have q0b := C1.cell 0 rfl
              have q1b := C1.cell 1 rfl
              have ltb := C1.1
              go_wp2_with fail
              refine (LM.out _ (h.below b1) (q.below b1)).mono ?_
              rintro e w2 ⟨rfl, t2⟩
              have b2 := bel_trans b1 t2
              have C2 := C1.below t2
              have q0d := C2.cell 0 rfl
              have q1d := C2.cell 1 rfl
              have ltd := C2.1
              go_wp2_with fail
              refine (LS1.out _).mono ?_
              rintro e w3 ⟨rfl, t3⟩
              have b3 := bel_trans b2 t3
              go_wp2_with fail
              go_ret3
              exact ⟨au_ret R.out, b3⟩
            · have HSE : Hid (auSeen rep act ws key ln ld = ((auditL key (m : Int)).take sm.toNat).any (badB rep act)) := by show _ = _; unfold auSeen; rw [HS.out, LR]
              have AL : (auditL key (m : Int)).length = m := by rw [auditL_length]; simp
              have MEM2 : Hid (∀ z ∈ auditL key (m : Int), 0 ≤ z ∧ z < (m : Int)) := by
                have := MEM.out; rw [LR] at this; exact this
              obtain ⟨L, hL⟩ : ∃ x, auditL key (m : Int) = x := ⟨_, rfl⟩
              have SH := Lib.hid (fun W => l09Shuffle_any key m W key1.1 key1.2 (by omega))
              rw [hL] at SH HSE AL MEM2
              obtain ⟨s, rfl⟩ := Int.eq_ofNat_of_zero_le (show 0 ≤ sm by omega)
              have HSN := Lib.hid hs
              have hsn : s ≤ m := by omega
              have HAL := Lib.hid AL
              clear hL AL MEM
              go_enter Try.func43, Try.ntmps43
              go_wp2_with fail
              refine (l09Votes_any A _ c rep C _ f ws _ h0 q0').mono ?_
              rintro e w1 ⟨rfl, rfl⟩
              rw [H1.out]
              go_wp2_with fail
              refine (l09Votes_any B _ d act C _ f ws _ k0 q0').mono ?_
              rintro e w1 ⟨rfl, rfl⟩
              rw [H2.out]
              go_wp2_with fail
              refine (l00In_val H3.out _).mono ?_
              rintro e w1 ⟨rfl, rfl⟩
              go_wp2_with fail
              refine (l01Ok_any _ _ _).mono ?_
              rintro e w1 ⟨rfl, t1⟩
              rw [H4.out]
              have b1 := bel_trans b0 t1
              have C1 := C0.below t1
              have q0b := C1.cell 0 rfl
              have q1b := C1.cell 1 rfl
              have ltb := C1.1
              go_wp2_with fail
              refine (LM.out _ (h.below b1) (q.below b1)).mono ?_
              rintro e w2 ⟨rfl, t2⟩
              have b2 := bel_trans b1 t2
              have C2 := C1.below t2
              have q0d := C2.cell 0 rfl
              have q1d := C2.cell 1 rfl
              have ltd := C2.1
              go_wp2_with fail
              refine (LS1.out _).mono ?_
              rintro e w3 ⟨rfl, t3⟩
              have b3 := bel_trans b2 t3
              go_wp2_with fail
              refine (SH.out _).mono ?_
              rintro e w4 ⟨A4, c4, rfl, o4, t4⟩
              have b4 := bel_trans b3 t4
              have O4 := o4.ints
              have h4 := h.below b4
              have k4 := k.below b4
              have HO4 := Lib.hid o4
              clear o4
              go_wp2_with fail
              go_loopw [17] (fun i wr => ∃ j : Nat, j ≤ s ∧ i = .int .i64 j ∧ (L.take j).any (badB rep act) = false ∧ ∃ x, wr = w4.drewN x) (fun i _ => s - (intOf i).toNat)
              case atStart => exact ⟨0, Nat.zero_le _, rfl, rfl, 0, rfl⟩
              case round =>
                obtain ⟨j, hj, rfl, hany, x, rfl⟩ := hrel
                have HA := Lib.hid hany
                clear hany
                by_cases hlt : j < s
                · obtain ⟨bo, oo, z, rfl, hbo, co, z1, z2, hz⟩ := O4.at (j := j) (by omega)
                  have bz := MEM2.out z (mem_of_at hz.out)
                  obtain ⟨z, rfl⟩ := Int.eq_ofNat_of_zero_le bz.1
                  obtain ⟨br, or_, u, rfl, hbr, cr, u1, u2, hu⟩ := h4.at (j := z) (by omega)
                  obtain ⟨ba, oa, v, rfl, hba, ca, v1, v2, hv⟩ := k4.at (j := z) (by omega)
                  have BB : Hid (badB rep act z = (u != v)) := by
                    show _ = _
                    unfold badB
                    simp [List.getD_eq_getElem?_getD, hu.out, hv.out]
                  by_cases huv : u = v
                  · have HB : Hid (badB rep act z = false) := by show _ = _; rw [BB.out, huv]; simp
                    have hq : (u != v) = false := by simp [huv]
                    have NX := Lib.hid (any_next hz.out HA.out HB.out)
                    clear BB huv
                    go_wp2_with fail
                    go_quiet (fail)
                    go_wp2_with fail
                    go_roundw
                    case rel => exact ⟨j + 1, by omega, by go_num, NX.out, _, rfl⟩
                    case measure => simp [intOf]; omega
                  · have hq : (u != v) = true := by simp [huv]
                    have HB : Hid (badB rep act z = true) := by show _ = _; rw [BB.out, hq]
                    have SE : Hid (auSeen rep act ws key ln ld = true) := by
                      show _ = _
                      rw [HSE.out]
                      refine any_stop (k := j) ?_ HB.out
                      rw [List.getElem?_take_of_lt (by simpa using hlt)]
                      exact hz.out
                    have R := Lib.hid ((au_seen HOK.out (by rw [HMG.out]; have := HNG.out; omega) (by rw [HS.out]; have := HSN.out; omega) SE.out).trans (by rw [AA.out, LR]))
                    clear BB
                    go_wp2_with fail
                    go_quiet (fail)
                    go_wp2_with fail
                    refine (l09Adopted_any _ m d act C f ws _ (k.below (below_drewN b4 _)) (q.below (below_drewN b4 _)) G6 G4 g1).mono ?_
                    rintro e w5 ⟨rfl, t5⟩
                    have b5 := bel_trans (below_drewN b4 _) t5
                    rw [AA.out]
                    go_wp2_with fail
                    go_ret3
                    exact ⟨au_ret R.out, b5⟩
                · obtain rfl : j = s := by omega
                  have SE : Hid (auSeen rep act ws key ln ld = false) := by show _ = _; rw [HSE.out, show ((j : Int)).toNat = j by simp]; exact HA.out
                  have R := Lib.hid ((au_end HOK.out (by rw [HMG.out]; have := HNG.out; omega) (by rw [HS.out]; have := HSN.out; omega) SE.out).trans (by rw [AR.out, HS.out]))
                  go_wp2_with fail
                  refine (l09Adopted_any A m c rep C f ws _ (h.below (below_drewN b4 _)) (q.below (below_drewN b4 _)) G2 G4 g1).mono ?_
                  rintro e w5 ⟨rfl, t5⟩
                  have b5 := bel_trans (below_drewN b4 _) t5
                  rw [AR.out]
                  go_wp2_with fail
                  go_ret3
                  exact ⟨au_ret R.out, b5⟩
set_option maxRecDepth 100000 in
set_option maxHeartbeats 2000000 in
theorem implRunAudit_any (A : Option Addr) (n c : Nat) (rep : List Int) (B : Option Addr) (m d : Nat) (act : List Int) (C : Option Addr) (l f : Nat) (ws : List Int) (key ln ld : Int) (w : World)
    (h : Ints .i64 w A n c rep) (k : Ints .i64 w B m d act) (q : Ints .i64 w C l f ws) :
    Calls Try.prog 38 #[.slice A n c, .slice B m d, .slice C l f, .int .i64 key, .agg #[.int .i64 ln, .int .i64 ld]] w fun e w' => e = .returned (auVal (auRes rep act ws key ln ld)) ∧ Below w.heap.size w w' := by
  have hl := Lib.hid h.1
  have kl := Lib.hid k.1
  have ql := Lib.hid q.1
  have hsh := h.short
  have C0 := Cs.new w [.int .i64 ln, .int .i64 ld] 52
  have b0 := bel_alloc w (.cells [.int .i64 ln, .int .i64 ld].toArray 52)
  have h0 := h.below b0
  have k0 := k.below b0
  have q0' := q.below b0
  have q0a := C0.cell 0 rfl
  have q1a := C0.cell 1 rfl
  have lta := C0.1
  cases ha : auditB key (n : Int)
  · have R : Hid (auRes rep act ws key ln ld = (0, false, false)) := by
      refine au_no ?_
      cases h1 : votesB rep ws
      · simp [auOk, h1]
      · obtain ⟨g1, _⟩ := votesB_true hl.out h1
        have : inR key 0 2147483646 = false := by
          cases h3 : inR key 0 2147483646
          · rfl
          · rw [audit_in h3 (inR_true.2 ⟨by omega, by omega⟩)] at ha; cases ha
        simp [auOk, this]
    have HA := Lib.hid ha
    have HV := Lib.hid (audit_no ha)
    clear ha
    go_enter Try.func38, Try.ntmps38
    go_wp2_with fail
    refine (implAuditOrder_any key _ _).mono ?_
    rintro e w1 ⟨A1, c1, rfl, o1, t1⟩
    rw [HA.out]
    have b1 := bel_trans b0 t1
    have C1 := C0.below t1
    have q0b := C1.cell 0 rfl
    have q1b := C1.cell 1 rfl
    have ltb := C1.1
    clear q0a q1a lta
    go_wp2_with fail
    go_ret3
    exact ⟨au_ret R.out, b1⟩
  · have HA := Lib.hid ha
    have HV := Lib.hid (audit_yes ha)
    cases h1 : votesB rep ws
    · have R := Lib.hid (au_no (rep := rep) (act := act) (ws := ws) (key := key) (ln := ln) (ld := ld) (by simp [auOk, h1]))
      have H1 := Lib.hid h1
      clear h1 ha
      go_enter Try.func38, Try.ntmps38
      go_wp2_with fail
      refine (implAuditOrder_any key _ _).mono ?_
      rintro e w1 ⟨A1, c1, rfl, o1, t1⟩
      rw [HA.out]
      have b1 := bel_trans b0 t1
      have C1 := C0.below t1
      have q0b := C1.cell 0 rfl
      have q1b := C1.cell 1 rfl
      have ltb := C1.1
      clear q0a q1a lta
      go_wp2_with fail
      refine (areVotes_any A _ c rep C _ f ws _ (h.below b1) (q.below b1)).mono ?_
      rintro e w2 ⟨rfl, t2⟩
      rw [H1.out]
      have b2 := bel_trans b1 t2
      have C2 := C1.below t2
      have q0c := C2.cell 0 rfl
      have q1c := C2.cell 1 rfl
      have ltc := C2.1
      clear q0b q1b ltb
      go_wp2_with fail
      go_ret3
      exact ⟨au_ret R.out, b2⟩
    · cases h2 : votesB act ws
      · have R := Lib.hid (au_no (rep := rep) (act := act) (ws := ws) (key := key) (ln := ln) (ld := ld) (by simp [auOk, h2]))
        have H1 := Lib.hid h1
        have H2 := Lib.hid h2
        clear h1 h2 ha
        go_enter Try.func38, Try.ntmps38
        go_wp2_with fail
        refine (implAuditOrder_any key _ _).mono ?_
        rintro e w1 ⟨A1, c1, rfl, o1, t1⟩
        rw [HA.out]
        have b1 := bel_trans b0 t1
        have C1 := C0.below t1
        have q0b := C1.cell 0 rfl
        have q1b := C1.cell 1 rfl
        have ltb := C1.1
        clear q0a q1a lta
        go_wp2_with fail
        refine (areVotes_any A _ c rep C _ f ws _ (h.below b1) (q.below b1)).mono ?_
        rintro e w2 ⟨rfl, t2⟩
        rw [H1.out]
        have b2 := bel_trans b1 t2
        have C2 := C1.below t2
        have q0c := C2.cell 0 rfl
        have q1c := C2.cell 1 rfl
        have ltc := C2.1
        clear q0b q1b ltb
        go_wp2_with fail
        refine (areVotes_any B _ d act C _ f ws _ (k.below b2) (q.below b2)).mono ?_
        rintro e w3 ⟨rfl, t3⟩
        rw [H2.out]
        have b3 := bel_trans b2 t3
        have C3 := C2.below t3
        have q0d := C3.cell 0 rfl
        have q1d := C3.cell 1 rfl
        have ltd := C3.1
        clear q0c q1c ltc
        go_wp2_with fail
        go_ret3
        exact ⟨au_ret R.out, b3⟩
      · cases h4 : okF ln ld
        · have R := Lib.hid (au_no (rep := rep) (act := act) (ws := ws) (key := key) (ln := ln) (ld := ld) (by simp [auOk, h4]))
          have H1 := Lib.hid h1
          have H2 := Lib.hid h2
          have H4 := Lib.hid h4
          clear h1 h2 h4 ha
          go_enter Try.func38, Try.ntmps38
          go_wp2_with fail
          refine (implAuditOrder_any key _ _).mono ?_
          rintro e w1 ⟨A1, c1, rfl, o1, t1⟩
          rw [HA.out]
          have b1 := bel_trans b0 t1
          have C1 := C0.below t1
          have q0b := C1.cell 0 rfl
          have q1b := C1.cell 1 rfl
          have ltb := C1.1
          clear q0a q1a lta
          go_wp2_with fail
          refine (areVotes_any A _ c rep C _ f ws _ (h.below b1) (q.below b1)).mono ?_
          rintro e w2 ⟨rfl, t2⟩
          rw [H1.out]
          have b2 := bel_trans b1 t2
          have C2 := C1.below t2
          have q0c := C2.cell 0 rfl
          have q1c := C2.cell 1 rfl
          have ltc := C2.1
          clear q0b q1b ltb
          go_wp2_with fail
          refine (areVotes_any B _ d act C _ f ws _ (k.below b2) (q.below b2)).mono ?_
          rintro e w3 ⟨rfl, t3⟩
          rw [H2.out]
          have b3 := bel_trans b2 t3
          have C3 := C2.below t3
          have q0d := C3.cell 0 rfl
          have q1d := C3.cell 1 rfl
          have ltd := C3.1
          clear q0c q1c ltc
          go_wp2_with fail
          refine (validFraction_any _ _ _).mono ?_
          rintro e w4 ⟨rfl, t4⟩
          rw [H4.out]
          have b4 := bel_trans b3 t4
          have C4 := C3.below t4
          have q0e := C4.cell 0 rfl
          have q1e := C4.cell 1 rfl
          have lte := C4.1
          clear q0d q1d ltd
          go_wp2_with fail
          go_ret3
          exact ⟨au_ret R.out, b4⟩
        · obtain ⟨g1, g2, g3, g4⟩ := votesB_true hl.out h1
          obtain ⟨g5, g6, g7, g8⟩ := votesB_true kl.out h2
          have h3 : inR key 0 2147483646 = true := by
            cases h3 : inR key 0 2147483646
            · rw [audit_out1 h3] at ha; cases ha
            · rfl
          have OK : auOk rep act ws key ln ld = true := by simp [auOk, h1, h2, h3, h4]
          have hm := marg_le hl.out h1
          have hc := marg_cut rep ws
          have key1 := inR_true.1 h3
          have mem0 := auditL_mem (key := key) (n := (n : Int)) (by omega) key1.1
          obtain rfl : l = n := ql.out.symm.trans g3
          obtain rfl : m = l := by have := ql.out; omega
          have LR := hl.out
          have LM := Lib.hid (fun W (hh : Ints .i64 W A m c rep) (qq : Ints .i64 W C m f ws) => implMarginOf_any A m c rep C m f ws W hh qq)
          have N30 : inR (m : Int) 0 30 = true := inR_true.2 ⟨by omega, by omega⟩
          have H1 := Lib.hid h1
          have H2 := Lib.hid h2
          have H4 := Lib.hid h4
          have HOK := Lib.hid OK
          have G2 := Lib.hid g2
          have G4 := Lib.hid g4
          have G6 := Lib.hid g6
          obtain ⟨mg, hmg⟩ : ∃ x, marg rep ws = x := ⟨_, rfl⟩
          rw [hmg] at hm hc
          have HMG := Lib.hid hmg
          obtain ⟨ar, har⟩ : ∃ x, adopt rep ws = x := ⟨_, rfl⟩
          obtain ⟨aa, haa⟩ : ∃ x, adopt act ws = x := ⟨_, rfl⟩
          have AR := Lib.hid har
          have AA := Lib.hid haa
          by_cases hneg : mg < 0
          · have R := Lib.hid ((au_none HOK.out (by rw [HMG.out]; exact hneg)).trans (by rw [AR.out]))
            obtain ⟨e1, e2⟩ := marg_none h1 (hmg.trans (by omega))
            rw [e1, e2] at LM
            clear h1 h2 h3 h4 g2 g3 g4 g6 g7 g8 OK mem0 hmg har haa N30 ha e1 e2
            go_enter Try.func38, Try.ntmps38
            go_wp2_with fail
            refine (implAuditOrder_any key _ _).mono ?_
            rintro e w1 ⟨A1, c1, rfl, o1, t1⟩
            rw [HA.out]
            have b1 := bel_trans b0 t1
            have C1 := C0.below t1
            have q0b := C1.cell 0 rfl
            have q1b := C1.cell 1 rfl
            have ltb := C1.1
            clear q0a q1a lta
            go_wp2_with fail
            refine (areVotes_any A _ c rep C _ f ws _ (h.below b1) (q.below b1)).mono ?_
            rintro e w2 ⟨rfl, t2⟩
            rw [H1.out]
            have b2 := bel_trans b1 t2
            have C2 := C1.below t2
            have q0c := C2.cell 0 rfl
            have q1c := C2.cell 1 rfl
            have ltc := C2.1
            clear q0b q1b ltb
            go_wp2_with fail
            refine (areVotes_any B _ d act C _ f ws _ (k.below b2) (q.below b2)).mono ?_
            rintro e w3 ⟨rfl, t3⟩
            rw [H2.out]
            have b3 := bel_trans b2 t3
            have C3 := C2.below t3
            have q0d := C3.cell 0 rfl
            have q1d := C3.cell 1 rfl
            have ltd := C3.1
            clear q0c q1c ltc
            go_wp2_with fail
            refine (validFraction_any _ _ _).mono ?_
            rintro e w4 ⟨rfl, t4⟩
            rw [H4.out]
            have b4 := bel_trans b3 t4
            have C4 := C3.below t4
            have q0e := C4.cell 0 rfl
            have q1e := C4.cell 1 rfl
            have lte := C4.1
            clear q0d q1d ltd
            go_wp2_with fail
            refine (LM.out _ (h.below b4) (q.below b4)).mono ?_
            rintro e w5 ⟨rfl, t5⟩
            have b5 := bel_trans b4 t5
            go_wp2_with fail
            refine (implAdopted_any A m c rep C f ws _ (h.below b5) (q.below b5) G2 G4 g1).mono ?_
            rintro e w6 ⟨rfl, t6⟩
            have b6 := bel_trans b5 t6
            rw [AR.out]
            go_wp2_with fail
            go_ret3
            exact ⟨au_ret R.out, b6⟩
          · have HNG := Lib.hid hneg
            have bmg : 0 < mg ∧ mg ≤ (m : Int) := ⟨by omega, hm⟩
            obtain ⟨e1, e2⟩ := marg_yes h1 hmg bmg.1
            rw [e1, e2] at LM
            obtain ⟨sm, hsm⟩ : ∃ x, sampI (m : Int) mg ln ld = x := ⟨_, rfl⟩
            have SM : auSm rep ws ln ld = sm := by unfold auSm; rw [LR, HMG.out]; exact hsm
            have bsm := sampF_in (m : Int) mg ln ld ((m : Int) + 1).toNat 0
            have SB : sm = -1 ∨ 0 ≤ sm ∧ sm ≤ (m : Int) := by rw [← hsm]; unfold sampI; omega
            have LS1 := Lib.hid (fun W => implSampleFor_any (m : Int) mg ln ld W)
            have HS := Lib.hid SM
            have MR : inR mg 0 (m : Int) = true := inR_true.2 ⟨by omega, hm⟩
            by_cases hs : sm < 0
            · have R := Lib.hid (au_small HOK.out (by rw [HMG.out]; exact hneg) (by rw [HS.out]; exact hs))
              obtain ⟨s1, s2⟩ := samp_small (b := (m : Int)) (x := mg) h4 N30 MR (by rw [hsm]; exact hs)
              rw [s1, s2] at LS1
              clear h1 h2 h3 h4 g2 g3 g4 g6 g7 g8 OK mem0 hmg har haa N30 ha e1 e2 hsm SM bsm MR s1 s2
              go_enter Try.func38, Try.ntmps38
              go_wp2_with fail
              refine (implAuditOrder_any key _ _).mono ?_
              rintro e w1 ⟨A1, c1, rfl, o1, t1⟩
              rw [HA.out]
              have b1 := bel_trans b0 t1
              have C1 := C0.below t1
              have q0b := C1.cell 0 rfl
              have q1b := C1.cell 1 rfl
              have ltb := C1.1
              clear q0a q1a lta
              go_wp2_with fail
              refine (areVotes_any A _ c rep C _ f ws _ (h.below b1) (q.below b1)).mono ?_
              rintro e w2 ⟨rfl, t2⟩
              rw [H1.out]
              have b2 := bel_trans b1 t2
              have C2 := C1.below t2
              have q0c := C2.cell 0 rfl
              have q1c := C2.cell 1 rfl
              have ltc := C2.1
              clear q0b q1b ltb
              go_wp2_with fail
              refine (areVotes_any B _ d act C _ f ws _ (k.below b2) (q.below b2)).mono ?_
              rintro e w3 ⟨rfl, t3⟩
              rw [H2.out]
              have b3 := bel_trans b2 t3
              have C3 := C2.below t3
              have q0d := C3.cell 0 rfl
              have q1d := C3.cell 1 rfl
              have ltd := C3.1
              clear q0c q1c ltc
              go_wp2_with fail
              refine (validFraction_any _ _ _).mono ?_
              rintro e w4 ⟨rfl, t4⟩
              rw [H4.out]
              have b4 := bel_trans b3 t4
              have C4 := C3.below t4
              have q0e := C4.cell 0 rfl
              have q1e := C4.cell 1 rfl
              have lte := C4.1
              clear q0d q1d ltd
              go_wp2_with fail
              refine (LM.out _ (h.below b4) (q.below b4)).mono ?_
              rintro e w5 ⟨rfl, t5⟩
              have b5 := bel_trans b4 t5
              have C5 := C4.below t5
              have q0f := C5.cell 0 rfl
              have q1f := C5.cell 1 rfl
              have ltf := C5.1
              go_wp2_with fail
              refine (LS1.out _).mono ?_
              rintro e w6 ⟨rfl, t6⟩
              have b6 := bel_trans b5 t6
              go_wp2_with fail
              go_ret3
              exact ⟨au_ret R.out, b6⟩
            · obtain ⟨s1, s2⟩ := samp_yes (b := (m : Int)) (x := mg) h4 N30 MR hsm (by omega)
              rw [s1, s2] at LS1
              have HSN := Lib.hid hs
              have HSE : Hid (auSeen rep act ws key ln ld = ((auditL key (m : Int)).take sm.toNat).any (badB rep act)) := by show _ = _; unfold auSeen; rw [HS.out, LR]
              have AL : (auditL key (m : Int)).length = m := by rw [auditL_length]; simp
              have MEM2 : Hid (∀ z ∈ auditL key (m : Int), 0 ≤ z ∧ z < (m : Int)) := mem0
              obtain ⟨L, hL⟩ : ∃ x, auditL key (m : Int) = x := ⟨_, rfl⟩
              have hV : auditV key (m : Int) = L := HV.out.trans hL
              rw [hL] at HSE AL MEM2
              obtain ⟨s, rfl⟩ := Int.eq_ofNat_of_zero_le (show 0 ≤ sm by omega)
              have hsn : s ≤ m := by omega
              have HAL := Lib.hid AL
              have HVL := Lib.hid hV
              clear h1 h2 h3 h4 g2 g3 g4 g6 g7 g8 OK mem0 hmg har haa N30 ha e1 e2 hsm SM bsm MR s1 s2 hL AL hV
              go_enter Try.func38, Try.ntmps38
              go_wp2_with fail
              refine (implAuditOrder_any key _ _).mono ?_
              rintro e w1 ⟨A1, c1, rfl, o1, t1⟩
              rw [HA.out]
              have b1 := bel_trans b0 t1
              have C1 := C0.below t1
              have q0b := C1.cell 0 rfl
              have q1b := C1.cell 1 rfl
              have ltb := C1.1
              clear q0a q1a lta
              go_wp2_with fail
              refine (areVotes_any A _ c rep C _ f ws _ (h.below b1) (q.below b1)).mono ?_
              rintro e w2 ⟨rfl, t2⟩
              rw [H1.out]
              have b2 := bel_trans b1 t2
              have C2 := C1.below t2
              have q0c := C2.cell 0 rfl
              have q1c := C2.cell 1 rfl
              have ltc := C2.1
              clear q0b q1b ltb
              go_wp2_with fail
              refine (areVotes_any B _ d act C _ f ws _ (k.below b2) (q.below b2)).mono ?_
              rintro e w3 ⟨rfl, t3⟩
              rw [H2.out]
              have b3 := bel_trans b2 t3
              have C3 := C2.below t3
              have q0d := C3.cell 0 rfl
              have q1d := C3.cell 1 rfl
              have ltd := C3.1
              clear q0c q1c ltc
              go_wp2_with fail
              refine (validFraction_any _ _ _).mono ?_
              rintro e w4 ⟨rfl, t4⟩
              rw [H4.out]
              have b4 := bel_trans b3 t4
              have C4 := C3.below t4
              have q0e := C4.cell 0 rfl
              have q1e := C4.cell 1 rfl
              have lte := C4.1
              clear q0d q1d ltd
              go_wp2_with fail
              refine (LM.out _ (h.below b4) (q.below b4)).mono ?_
              rintro e w5 ⟨rfl, t5⟩
              have b5 := bel_trans b4 t5
              have C5 := C4.below t5
              have q0f := C5.cell 0 rfl
              have q1f := C5.cell 1 rfl
              have ltf := C5.1
              go_wp2_with fail
              refine (LS1.out _).mono ?_
              rintro e w6 ⟨rfl, t6⟩
              have b6 := bel_trans b5 t6
              have o6 := (((((o1.below t2).below t3).below t4).below t5).below t6)
              have hcc : (auditV key (m : Int)).length ≤ c1 := o6.ints.2.1
              have hcm : c1 ≤ 9223372036854775807 := by have := o6.ints.2.2.1; unfold maxLen at this; omega
              have OI := o6.ints
              rw [HVL.out, HAL.out] at OI hcc
              rw [HVL.out, HAL.out]
              have O4 := OI.front (k := s) hsn
              have h4 := h.below b6
              have k4 := k.below b6
              clear o1 o6 OI
              go_wp2_with fail
              go_loopw [70] (fun i wr => ∃ j : Nat, j ≤ s ∧ i = .int .i64 j ∧ ((L.take s).take j).any (badB rep act) = false ∧ ∃ x, wr = w6.drewN x) (fun i _ => s - (intOf i).toNat)
              case atStart => exact ⟨0, Nat.zero_le _, rfl, rfl, 0, rfl⟩
              case round =>
                obtain ⟨j, hj, rfl, hany, x, rfl⟩ := hrel
                have HA2 := Lib.hid hany
                clear hany
                by_cases hlt : j < s
                · obtain ⟨bo, oo, z, rfl, hbo, co, z1, z2, hz⟩ := O4.at (j := j) hlt
                  have bz := MEM2.out z (List.mem_of_mem_take (mem_of_at hz.out))
                  obtain ⟨z, rfl⟩ := Int.eq_ofNat_of_zero_le bz.1
                  obtain ⟨br, or_, u, rfl, hbr, cr, u1, u2, hu⟩ := h4.at (j := z) (by omega)
                  obtain ⟨ba, oa, v, rfl, hba, ca, v1, v2, hv⟩ := k4.at (j := z) (by omega)
                  have BB : Hid (badB rep act z = (u != v)) := by
                    show _ = _
                    unfold badB
                    simp [List.getD_eq_getElem?_getD, hu.out, hv.out]
                  by_cases huv : u = v
                  · have HB : Hid (badB rep act z = false) := by show _ = _; rw [BB.out, huv]; simp
                    have hq : (u != v) = false := by simp [huv]
                    have NX := Lib.hid (any_next hz.out HA2.out HB.out)
                    clear BB huv
                    go_wp2_with fail
                    go_quiet (fail)
                    go_wp2_with fail
                    go_roundw
                    case rel => exact ⟨j + 1, by omega, by go_num, NX.out, _, rfl⟩
                    case measure => simp [intOf]; omega
                  · have hq : (u != v) = true := by simp [huv]
                    have HB : Hid (badB rep act z = true) := by show _ = _; rw [BB.out, hq]
                    have SE : Hid (auSeen rep act ws key ln ld = true) := by
                      show _ = _
                      rw [HSE.out, show ((s : Int)).toNat = s by simp]
                      exact any_stop (k := j) hz.out HB.out
                    have R := Lib.hid ((au_seen HOK.out (by rw [HMG.out]; have := HNG.out; omega) (by rw [HS.out]; have := HSN.out; omega) SE.out).trans (by rw [AA.out, LR]))
                    clear BB
                    go_wp2_with fail
                    go_quiet (fail)
                    go_wp2_with fail
                    refine (implAdopted_any _ m d act C f ws _ (k.below (below_drewN b6 _)) (q.below (below_drewN b6 _)) G6 G4 g1).mono ?_
                    rintro e w7 ⟨rfl, t7⟩
                    have b7 := bel_trans (below_drewN b6 _) t7
                    rw [AA.out]
                    go_wp2_with fail
                    go_ret3
                    exact ⟨au_ret R.out, b7⟩
                · obtain rfl : j = s := by omega
                  have SE : Hid (auSeen rep act ws key ln ld = false) := by show _ = _; rw [HSE.out, show ((j : Int)).toNat = j by simp]; have := HA2.out; rwa [List.take_take, Nat.min_self] at this
                  have R := Lib.hid ((au_end HOK.out (by rw [HMG.out]; have := HNG.out; omega) (by rw [HS.out]; have := HSN.out; omega) SE.out).trans (by rw [AR.out, HS.out]))
                  go_wp2_with fail
                  refine (implAdopted_any A m c rep C f ws _ (h.below (below_drewN b6 _)) (q.below (below_drewN b6 _)) G2 G4 g1).mono ?_
                  rintro e w7 ⟨rfl, t7⟩
                  have b7 := bel_trans (below_drewN b6 _) t7
                  rw [AR.out]
                  go_wp2_with fail
                  go_ret3
                  exact ⟨au_ret R.out, b7⟩
theorem au_split (r : Int × Bool × Bool) : ∃ a b c, r = (a, b, c) := ⟨r.1, r.2.1, r.2.2, rfl⟩
set_option maxRecDepth 100000 in
set_option maxHeartbeats 4000000 in
theorem fnExactRunAudit_walk (w : World) (A : Option Addr) (n c : Nat) (rep : List Int) (h : Ints .i64 w A n c rep) (B : Option Addr) (m d : Nat) (act : List Int) (k : Ints .i64 w B m d act) (C : Option Addr) (l f : Nat) (ws : List Int) (q : Ints .i64 w C l f ws)
    (key : Int) (l3 : -9223372036854775808 ≤ key) (h3 : key ≤ 9223372036854775807) (ln ld : Int) (l4 : -9223372036854775808 ≤ ln) (h4 : ln ≤ 9223372036854775807) (l5 : -9223372036854775808 ≤ ld) (h5 : ld ≤ 9223372036854775807) :
    Calls Try.prog 9 #[.slice A n c, .slice B m d, .slice C l f, .int .i64 key, .agg #[.int .i64 ln, .int .i64 ld]] w fun e w' => e = .returned (.bool true) ∧ Below w.heap.size w w' := by
  have hm := h.short
  have km := k.short
  have qm := q.short
  have C0 := Cs.new w [.int .i64 ln, .int .i64 ld] 61
  have b0 := bel_alloc w (.cells [.int .i64 ln, .int .i64 ld].toArray 61)
  by_cases hn : n ≤ 1048576
  · by_cases hn2 : m ≤ 1048576
    · by_cases hn3 : l ≤ 1048576
      · obtain ⟨a, b, b2, hr⟩ := au_split (auRes rep act ws key ln ld)
        have SP := Lib.hid (fun A n c B m d C l f w h k q => specRunAudit_any A n c rep B m d act C l f ws key ln ld w h k q)
        have IP := Lib.hid (fun A n c B m d C l f w h k q => implRunAudit_any A n c rep B m d act C l f ws key ln ld w h k q)
        rw [hr, show auVal (a, b, b2) = .tuple #[.int .i64 a, .bool b, .bool b2] from rfl] at SP IP
        clear hr
        have q0a := C0.cell 0 rfl
        have q1a := C0.cell 1 rfl
        have lta := C0.1
        go_enter Try.func9, Try.ntmps9
        go_wp2_with fail
        obtain ⟨w1, hw1⟩ : ∃ z, w.alloc (.cells #[.int .i64 ln, .int .i64 ld] 61) = z := ⟨_, rfl⟩
        change Below w.heap.size w (w.alloc (.cells #[.int .i64 ln, .int .i64 ld] 61)) at b0
        change Cs (w.alloc (.cells #[.int .i64 ln, .int .i64 ld] 61)) w.heap.size _ at C0
        change (w.alloc (.cells #[.int .i64 ln, .int .i64 ld] 61)).cell? _ = _ at q0a q1a
        rw [hw1] at b0 C0 q0a q1a ⊢
        have lta' := C0.1
        have SS := Lib.hid (fun (W : World) (hb : Below w1.heap.size w1 W) => show _ ∧ _ from ⟨(hb.cell (p := ⟨w.heap.size, 0, none⟩) lta').trans q0a, (hb.cell (p := ⟨w.heap.size, 1, none⟩) lta').trans q1a⟩)
        have t0 : Below w1.heap.size w1 w1.drew := (Below.refl _ _).drew
        clear hw1 lta
        go_region_held3 (fun w' => w'.cell? ⟨w.heap.size, 0, none⟩ = some (.int .i64 ln) ∧ w'.cell? ⟨w.heap.size, 1, none⟩ = some (.int .i64 ld)) (first | exact ⟨q0a, q1a⟩ | exact SS.out _ t0 | exact SS.out _ t1 | exact SS.out _ t2 | exact SS.out _ t3 | exact SS.out _ t4 | exact SS.out _ t5)
          (first
            | (go_at_call 11; (with_reducible refine (toInt64S_any A n c rep _ (h.below (bel_trans b0 t0)) hn).mono ?_); rintro e wA ⟨A1, c1, rfl, o1, u1⟩; have t1 := bel_trans t0 u1)
            | (go_at_call 11; (with_reducible refine (toInt64S_any B m d act _ (k.below (bel_trans b0 t1)) hn2).mono ?_); rintro e wB ⟨B1, d1, rfl, o2, u2⟩; have t2 := bel_trans t1 u2)
            | (go_at_call 11; (with_reducible refine (toInt64S_any C l f ws _ (q.below (bel_trans b0 t2)) hn3).mono ?_); rintro e wC ⟨C1, f1, rfl, o3, u3⟩; have t3 := bel_trans t2 u3)
            | (go_at_call 44; refine (toFraction_any ln ld _).mono ?_; rintro e wD ⟨rfl, u4⟩; have t4 := bel_trans t3 u4)
            | (go_at_call 43; refine (SP.out A1 _ c1 B1 _ d1 C1 _ f1 _ (by exact ((o1.ints.below u2).below u3).below u4) (by exact (o2.ints.below u3).below u4) (by exact o3.ints.below u4)).mono ?_; rintro e wE ⟨rfl, u5⟩; have t5 := bel_trans t4 u5))
        have bb5 := bel_trans b0 t5
        have C5 := C0.below t5
        have q0b := C5.cell 0 rfl
        have q1b := C5.cell 1 rfl
        have ltb := C5.1
        have ab : (a == a) = true := by simp
        have bbq : (b == b) = true := by simp
        have bbr : (b2 == b2) = true := by simp
        clear q0a q1a SS
        go_wp2_with fail
        refine (toInt64S_any A n c rep _ (h.below bb5) hn).mono ?_
        rintro e w6 ⟨A6, c6, rfl, o6, u6⟩
        have bb6 := bel_trans bb5 u6
        go_wp2_with fail
        refine (toInt64S_any B m d act _ (k.below bb6) hn2).mono ?_
        rintro e w7 ⟨B7, d7, rfl, o7, u7⟩
        have bb7 := bel_trans bb6 u7
        go_wp2_with fail
        refine (toInt64S_any C l f ws _ (q.below bb7) hn3).mono ?_
        rintro e w8 ⟨C8, f8, rfl, o8, u8⟩
        have bb8 := bel_trans bb7 u8
        have D8 := ((C5.below u6).below u7).below u8
        have q0c := D8.cell 0 rfl
        have q1c := D8.cell 1 rfl
        have ltc := D8.1
        clear q0b q1b ltb
        go_wp2_with fail
        refine (toFraction_any ln ld _).mono ?_
        rintro e w9 ⟨rfl, u9⟩
        have bb9 := bel_trans bb8 u9
        have p6 := ((o6.below u7).below u8).below u9
        have p7 := (o7.below u8).below u9
        have p8 := o8.below u9
        go_wp2_with fail
        refine (IP.out A6 _ c6 B7 _ d7 C8 _ f8 _ p6.ints p7.ints p8.ints).mono ?_
        rintro e w10 ⟨rfl, u10⟩
        have bb10 := bel_trans bb9 u10
        have r6 := p6.below u10
        have r7 := p7.below u10
        have r8 := p8.below u10
        go_wp2_with fail
        refine (toInt64S_any A n c rep _ (h.below bb10) hn).mono ?_
        rintro e w11 ⟨A11, c11, rfl, o11, u11⟩
        have bb11 := bel_trans bb10 u11
        go_wp2_with fail
        refine (eqInt64S_any _ _ _ rep _ _ _ rep _ (r6.below u11).ints o11.ints).mono ?_
        rintro e w12 ⟨rfl, u12⟩
        rw [show decide (rep = rep) = true by simp]
        have bb12 := bel_trans bb11 u12
        go_wp2_with fail
        refine (toInt64S_any B m d act _ (k.below bb12) hn2).mono ?_
        rintro e w13 ⟨A13, c13, rfl, o13, u13⟩
        have bb13 := bel_trans bb12 u13
        go_wp2_with fail
        refine (eqInt64S_any _ _ _ act _ _ _ act _ (((r7.below u11).below u12).below u13).ints o13.ints).mono ?_
        rintro e w14 ⟨rfl, u14⟩
        rw [show decide (act = act) = true by simp]
        have bb14 := bel_trans bb13 u14
        go_wp2_with fail
        refine (toInt64S_any C l f ws _ (q.below bb14) hn3).mono ?_
        rintro e w15 ⟨A15, c15, rfl, o15, u15⟩
        have bb15 := bel_trans bb14 u15
        go_wp2_with fail
        refine (eqInt64S_any _ _ _ ws _ _ _ ws _ (((((r8.below u11).below u12).below u13).below u14).below u15).ints o15.ints).mono ?_
        rintro e w16 ⟨rfl, u16⟩
        rw [show decide (ws = ws) = true by simp]
        have bb16 := bel_trans bb15 u16
        go_wp2_with fail
        go_ret
        exact ⟨rfl, bb16⟩
      · go_enter Try.func9, Try.ntmps9
        go_wp2_with fail
        go_ret
        exact ⟨rfl, b0⟩
    · go_enter Try.func9, Try.ntmps9
      go_wp2_with fail
      go_ret
      exact ⟨rfl, b0⟩
  · go_enter Try.func9, Try.ntmps9
    go_wp2_with fail
    go_ret
    exact ⟨rfl, b0⟩
end Go.Proofs.Ytfanjnoaifhnnaa
