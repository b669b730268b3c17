/- Contracts on proofs for bits: whether one is a proof. -/
import Derived.Test.YtnjnngnagdhaiaaGroup
import Derived.Test.YtnjnngnagdhaiaaMark
import Derived.Test.YtnjnngnagdhaiaaCells
import Derived.Lib.SmallJoins
import Derived.Deep.RegionHeld3
namespace Go.Proofs.Ytnjnngnagdhaiaa
set_option linter.unusedVariables false
open Go.RowKit

/-- A seal without the value of a bit. -/
def inv4 : Int := pw 4 500000002
def openO (s : Int) (bit : Int) : Int := if bit = 0 then s else mm s inv4
theorem inv4_bd : 0 ≤ inv4 ∧ inv4 < 1000000007 := ⟨pw_lo _ _, pw_hi _ _⟩
theorem inv4_impl : pw 4 1000000005 = inv4 := by
  unfold inv4
  rw [← pw_mod order4 1000000005]
theorem openO_bd {s bit : Int} (h : 0 ≤ s) (h' : s < 1000000007) : 0 ≤ openO s bit ∧ openO s bit < 1000000007 := by
  unfold openO; split
  · exact ⟨h, h'⟩
  · exact ⟨mm_lo _ _, mm_hi _ _⟩
theorem openO_zero (s : Int) : openO s 0 = s := by simp [openO]
theorem openO_one {s bit : Int} (h : bit ≠ 0) : openO s bit = mm s inv4 := by simp [openO, h]
theorem inverse_any (s : Int) (w : World) (h0 : 0 ≤ s) (h1 : s < 1000000007) :
    Calls Try.prog 59 #[.int .i64 s] w fun e w' => e = .returned (.int .i64 (pw s 1000000005)) ∧ w = w' := by
  go_enter Try.func59, Try.ntmps59
  go_wp2_with (go_at_call 58; refine (power_any _ _ _ (by omega) (by omega) (by omega) (by omega)).mono ?_; rintro e w' ⟨rfl, rfl⟩)
  go_ret
  exact ⟨rfl, rfl⟩
theorem power_to {b e x : Int} (hx : pw b e.toNat = x) (w : World) (h0 : 0 ≤ b) (h1 : b < 1000000007) (h2 : 0 ≤ e) (h3 : e ≤ 9223372036854775807) :
    Calls Try.prog 58 #[.int .i64 b, .int .i64 e] w fun e w' => e = .returned (.int .i64 x) ∧ w = w' := by
  subst hx
  exact power_any _ _ _ h0 h1 h2 h3
theorem opened_any (s bit : Int) (w : World) (h0 : 0 ≤ s) (h1 : s < 1000000007) :
    Calls Try.prog 60 #[.int .i64 s, .int .i64 bit] w fun e w' => e = .returned (.int .i64 (openO s bit)) ∧ w = w' := by
  by_cases hb : bit = 0
  · subst hb
    have R := Lib.hid (openO_zero s)
    go_enter Try.func60, Try.ntmps60
    go_wp2_with fail
    go_ret
    exact ⟨ret_int R.out.symm, rfl⟩
  · have R := Lib.hid (openO_one (s := s) hb)
    have b := inv4_bd
    have hb0 : (bit == 0) = false := by simpa using hb
    have m1 : 0 ≤ s * inv4 := Int.mul_nonneg h0 b.1
    have m2 : s * inv4 ≤ 1000000007 * 1000000007 := Int.mul_le_mul (by omega) (by omega) b.1 (by omega)
    have HI : Hid (pw 4 1000000005 = inv4) := inv4_impl
    go_enter Try.func60, Try.ntmps60
    go_wp2_with (go_at_call 59; refine (inverse_any _ _ (by omega) (by omega)).mono ?_; rintro e w' ⟨rfl, rfl⟩; rw [HI.out])
    go_ret
    exact ⟨ret_int R.out.symm, rfl⟩
theorem opened_to {s bit x : Int} (hx : openO s bit = x) (w : World) (h0 : 0 ≤ s) (h1 : s < 1000000007) :
    Calls Try.prog 60 #[.int .i64 s, .int .i64 bit] w fun e w' => e = .returned (.int .i64 x) ∧ w = w' := by
  subst hx
  exact opened_any _ _ _ h0 h1
theorem l09Without_any (s bit : Int) (w : World) (h0 : 0 ≤ s) (h1 : s < 1000000007) :
    Calls Try.prog 97 #[.int .i64 s, .int .i64 bit] w fun e w' => e = .returned (.int .i64 (openO s bit)) ∧ w = w' := by
  by_cases hb : bit = 0
  · subst hb
    have R := Lib.hid (openO_zero s)
    go_enter Try.func97, Try.ntmps97
    go_wp2_with fail
    go_ret
    exact ⟨ret_int R.out.symm, rfl⟩
  · have R := Lib.hid (openO_one (s := s) hb)
    have b := inv4_bd
    have hb0 : (bit == 0) = false := by simpa using hb
    have HI : Hid (pw 4 (500000002 : Int).toNat = inv4) := rfl
    go_enter Try.func97, Try.ntmps97
    go_wp2_with fail
    refine (l09Power_any _ _ _ (by omega) (by omega) (by omega) (by omega)).mono ?_
    rintro e w' ⟨rfl, rfl⟩
    rw [HI.out]
    go_wp2_with fail
    refine (l09Times_any _ _ _ h0 h1 b.1 b.2).mono ?_
    rintro e w' ⟨rfl, rfl⟩
    go_wp2_with fail
    go_ret
    exact ⟨ret_int R.out.symm, rfl⟩
/-- The check of one of the two marks of a proof. -/
def chkI (s m c a bit : Int) : Bool := pw 9 a.toNat == mm m (pw (openO s bit) c.toNat)
/-- Are the lists those of a proof for a seal? -/
def bpPre (s : Int) (ms cs as_ : List Int) : Bool := sealB s && allB ms 2 sealB && allB cs 2 expB && allB as_ 2 expB
def bpB (s : Int) (ms cs as_ : List Int) : Bool :=
  bpPre s ms cs as_ && ((cs.getD 0 0 + cs.getD 1 0) % 500000003 == chal [s, ms.getD 0 0, ms.getD 1 0]) && chkI s (ms.getD 0 0) (cs.getD 0 0) (as_.getD 0 0) 0 && chkI s (ms.getD 1 0) (cs.getD 1 0) (as_.getD 1 0) 1
set_option maxRecDepth 100000 in
set_option maxHeartbeats 1000000 in
theorem isBitProof_any (s : Int) (A : Option Addr) (n c : Nat) (ms : List Int) (B : Option Addr) (m d : Nat) (cs : List Int) (C : Option Addr) (k f : Nat) (as_ : List Int) (w : World)
    (h1 : Ints .i64 w A n c ms) (h2 : Ints .i64 w B m d cs) (h3 : Ints .i64 w C k f as_) :
    Calls Try.prog 16 #[.int .i64 s, .agg #[.slice A n c, .slice B m d, .slice C k f]] w fun e w' => e = .returned (.bool (bpB s ms cs as_)) ∧ Below w.heap.size w w' := by
  have e1 := h1.short
  have e2 := h2.short
  have e3 := h3.short
  have C0 := Lib.hid (Cs.new w [.slice A n c, .slice B m d, .slice C k f] 31)
  cases hs : sealB s
  · have HS := Lib.hid hs
    have R : Hid (bpB s ms cs as_ = false) := by show _ = _; simp [bpB, bpPre, hs]
    clear hs
    go_enter Try.func16, Try.ntmps16
    go_wp2_with fail
    refine (implIsSeal_any _ _).mono ?_
    rintro e w1 ⟨rfl, rfl⟩
    rw [HS.out]
    go_wp2_with fail
    go_ret
    exact ⟨ret_bool R.out.symm, bel_alloc _ _⟩
  · cases hm : allB ms 2 sealB
    · have HS := Lib.hid hs
      have HM := Lib.hid hm
      have R : Hid (bpB s ms cs as_ = false) := by show _ = _; simp [bpB, bpPre, hm]
      clear hs hm
      go_enter Try.func16, Try.ntmps16
      go_wp2_with fail
      refine (implIsSeal_any _ _).mono ?_
      rintro e w1 ⟨rfl, rfl⟩
      rw [HS.out]
      go_wp2_with fail
      refine (areAll_implIsSeal A n c ms 2 _ (h1.below (bel_alloc _ _))).mono ?_
      rintro e w1 ⟨rfl, b1⟩
      rw [HM.out]
      go_wp2_with fail
      go_ret
      exact ⟨ret_bool R.out.symm, bel_trans (bel_alloc _ _) b1⟩
    · cases hc : allB cs 2 expB
      · have HS := Lib.hid hs
        have HM := Lib.hid hm
        have HC := Lib.hid hc
        have R : Hid (bpB s ms cs as_ = false) := by show _ = _; simp [bpB, bpPre, hc]
        clear hs hm hc
        go_enter Try.func16, Try.ntmps16
        go_wp2_with fail
        refine (implIsSeal_any _ _).mono ?_
        rintro e w1 ⟨rfl, rfl⟩
        rw [HS.out]
        go_wp2_with fail
        refine (areAll_implIsSeal A n c ms 2 _ (h1.below (bel_alloc _ _))).mono ?_
        rintro e w1 ⟨rfl, b1⟩
        rw [HM.out]
        have b01 := bel_trans (bel_alloc w _) b1
        have C1 := C0.out.below b1
        have q0a := C1.cell 0 rfl
        have q1a := C1.cell 1 rfl
        have q2a := C1.cell 2 rfl
        have lta := C1.1
        go_wp2_with fail
        refine (areAll_isExponent B m d cs 2 _ (h2.below b01)).mono ?_
        rintro e w2 ⟨rfl, b2⟩
        rw [HC.out]
        have b02 := bel_trans b01 b2
        go_wp2_with fail
        go_ret
        exact ⟨ret_bool R.out.symm, b02⟩
      · cases ha : allB as_ 2 expB
        · have HS := Lib.hid hs
          have HM := Lib.hid hm
          have HC := Lib.hid hc
          have HA := Lib.hid ha
          have R : Hid (bpB s ms cs as_ = false) := by show _ = _; simp [bpB, bpPre, ha]
          clear hs hm hc ha
          go_enter Try.func16, Try.ntmps16
          go_wp2_with fail
          refine (implIsSeal_any _ _).mono ?_
          rintro e w1 ⟨rfl, rfl⟩
          rw [HS.out]
          go_wp2_with fail
          refine (areAll_implIsSeal A n c ms 2 _ (h1.below (bel_alloc _ _))).mono ?_
          rintro e w1 ⟨rfl, b1⟩
          rw [HM.out]
          have b01 := bel_trans (bel_alloc w _) b1
          have C1 := C0.out.below b1
          have q0a := C1.cell 0 rfl
          have q1a := C1.cell 1 rfl
          have q2a := C1.cell 2 rfl
          have lta := C1.1
          go_wp2_with fail
          refine (areAll_isExponent B m d cs 2 _ (h2.below b01)).mono ?_
          rintro e w2 ⟨rfl, b2⟩
          rw [HC.out]
          have b02 := bel_trans b01 b2
          have C2 := C1.below b2
          have q0b := C2.cell 0 rfl
          have q1b := C2.cell 1 rfl
          have q2b := C2.cell 2 rfl
          have ltb := C2.1
          go_wp2_with fail
          refine (areAll_isExponent C k f as_ 2 _ (h3.below b02)).mono ?_
          rintro e w3 ⟨rfl, b3⟩
          rw [HA.out]
          have b03 := bel_trans b02 b3
          go_wp2_with fail
          go_ret
          exact ⟨ret_bool R.out.symm, b03⟩
        · have HS := Lib.hid hs
          have HM := Lib.hid hm
          have HC := Lib.hid hc
          have HA := Lib.hid ha
          obtain ⟨lm, hm2⟩ := allB_true.1 hm
          obtain ⟨lc, hc2⟩ := allB_true.1 hc
          obtain ⟨la, ha2⟩ := allB_true.1 ha
          have bs := sealB_true hs
          have PRE : Hid (bpPre s ms cs as_ = true) := by show _ = _; simp [bpPre, hs, hm, hc, ha]
          obtain rfl : n = 2 := by have := h1.1; omega
          obtain rfl : m = 2 := by have := h2.1; omega
          obtain rfl : k = 2 := by have := h3.1; omega
          obtain ⟨bA, oA, m0, rfl, hbA, cm0, _, _, hm0⟩ := h1.at (j := 0) (by omega)
          obtain ⟨bA', oA', m1, eA, _, cm1, _, _, hm1⟩ := h1.at (j := 1) (by omega)
          obtain ⟨bB, oB, c0, rfl, hbB, cc0, _, _, hc0⟩ := h2.at (j := 0) (by omega)
          obtain ⟨bB', oB', c1, eB, _, cc1, _, _, hc1⟩ := h2.at (j := 1) (by omega)
          obtain ⟨bC, oC, a0, rfl, hbC, ca0, _, _, ha0⟩ := h3.at (j := 0) (by omega)
          obtain ⟨bC', oC', a1, eC, _, ca1, _, _, ha1⟩ := h3.at (j := 1) (by omega)
          simp only [Option.some.injEq, Addr.mk.injEq, and_true] at eA eB eC
          obtain ⟨rfl, rfl⟩ := eA
          obtain ⟨rfl, rfl⟩ := eB
          obtain ⟨rfl, rfl⟩ := eC
          have bm0 := sealB_true (hm2 _ (mem_of_at hm0.out))
          have bm1 := sealB_true (hm2 _ (mem_of_at hm1.out))
          have bc0 := expB_true (hc2 _ (mem_of_at hc0.out))
          have bc1 := expB_true (hc2 _ (mem_of_at hc1.out))
          have ba0 := expB_true (ha2 _ (mem_of_at ha0.out))
          have ba1 := expB_true (ha2 _ (mem_of_at ha1.out))
          have RB : Hid (bpB s ms cs as_ = (((c0 + c1) % 500000003 == chal [s, m0, m1]) && chkI s m0 c0 a0 0 && chkI s m1 c1 a1 1)) := by
            show _ = _
            simp only [bpB, PRE.out, List.getD_eq_getElem?_getD, hm0.out, hm1.out, hc0.out, hc1.out, ha0.out, ha1.out]
            simp
          have MODS : Hid (∀ z ∈ [s, m0, m1], modB z = true) := by
            intro z hz
            simp at hz
            rcases hz with rfl | rfl | rfl <;> exact inR_true.2 ⟨by omega, by omega⟩
          clear hs hm hc ha lm lc la hm2 hc2 ha2
          go_enter Try.func16, Try.ntmps16
          go_wp2_with fail
          refine (implIsSeal_any _ _).mono ?_
          rintro e w1 ⟨rfl, rfl⟩
          rw [HS.out]
          go_wp2_with fail
          refine (areAll_implIsSeal _ _ c ms 2 _ (h1.below (bel_alloc _ _))).mono ?_
          rintro e w1 ⟨rfl, b1⟩
          rw [HM.out]
          have b01 := bel_trans (bel_alloc w _) b1
          have C1 := C0.out.below b1
          have q0a := C1.cell 0 rfl
          have q1a := C1.cell 1 rfl
          have q2a := C1.cell 2 rfl
          have lta := C1.1
          go_wp2_with fail
          refine (areAll_isExponent _ _ d cs 2 _ (h2.below b01)).mono ?_
          rintro e w2 ⟨rfl, b2⟩
          rw [HC.out]
          have b02 := bel_trans b01 b2
          have C2 := C1.below b2
          have q0b := C2.cell 0 rfl
          have q1b := C2.cell 1 rfl
          have q2b := C2.cell 2 rfl
          have ltb := C2.1
          go_wp2_with fail
          refine (areAll_isExponent _ _ f as_ 2 _ (h3.below b02)).mono ?_
          rintro e w3 ⟨rfl, b3⟩
          rw [HA.out]
          have b03 := bel_trans b02 b3
          have C3 := C2.below b3
          have q0c := C3.cell 0 rfl
          have q1c := C3.cell 1 rfl
          have q2c := C3.cell 2 rfl
          have ltc := C3.1
          have xm0 := (b03.cell (p := ⟨bA, oA, none⟩) hbA).trans cm0
          have xm1 := (b03.cell (p := ⟨bA, oA + 1, none⟩) hbA).trans cm1
          have xc0 := (b03.cell (p := ⟨bB, oB, none⟩) hbB).trans cc0
          have xc1 := (b03.cell (p := ⟨bB, oB + 1, none⟩) hbB).trans cc1
          have xa0 := (b03.cell (p := ⟨bC, oC, none⟩) hbC).trans ca0
          have xa1 := (b03.cell (p := ⟨bC, oC + 1, none⟩) hbC).trans ca1
          have lA := Nat.lt_of_lt_of_le hbA b03.size
          have lB := Nat.lt_of_lt_of_le hbB b03.size
          have lC := Nat.lt_of_lt_of_le hbC b03.size
          obtain ⟨ch, hch⟩ : ∃ ch, chal [s, m0, m1] = ch := ⟨_, rfl⟩
          obtain ⟨sm, hsm⟩ : ∃ sm, (c0 + c1) % 500000003 = sm := ⟨_, rfl⟩
          have CH := Lib.hid hch
          have RS : Hid (bpB s ms cs as_ = ((sm == ch) && chkI s m0 c0 a0 0 && chkI s m1 c1 a1 1)) := by
            show _ = _
            rw [RB.out, hch, hsm]
          have W1 : IntKind.i64.wrap (c0 + c1) = c0 + c1 := IntWalk.i64_in _ (by omega)
          have T1 : (c0 + c1).tmod 500000003 = sm := by rw [Int.tmod_eq_emod_of_nonneg (by omega)]; exact hsm
          clear hch hsm RB
          have N1 := Lib.hid ((Cs.new w3.drew [.int .i64 s, .int .i64 m0, .int .i64 m1] 2).ints (n := 3) [s, m0, m1] rfl rfl (by decide) (by intro z hz; simp at hz; rcases hz with rfl | rfl | rfl <;> omega))
          have b04 := Lib.hid (bel_trans b03 (bel_alloc w3 (.cells [.int .i64 s, .int .i64 m0, .int .i64 m1].toArray 2)))
          have KS1 : Hid (w3.cell? ⟨w.heap.size, 0, none⟩ = some (.slice (some ⟨bA, oA, none⟩) 2 c) ∧ w3.cell? ⟨w.heap.size, 1, none⟩ = some (.slice (some ⟨bB, oB, none⟩) 2 d) ∧ w3.cell? ⟨bA, oA, none⟩ = some (.int .i64 m0) ∧ w3.cell? ⟨bA, oA + 1, none⟩ = some (.int .i64 m1) ∧ w3.cell? ⟨bB, oB, none⟩ = some (.int .i64 c0) ∧ w3.cell? ⟨bB, oB + 1, none⟩ = some (.int .i64 c1)) := ⟨q0c, q1c, xm0, xm1, xc0, xc1⟩
          have b34 := bel_alloc w3.drew (.cells [.int .i64 s, .int .i64 m0, .int .i64 m1].toArray 2)
          have KS2 := Lib.hid (show _ ∧ _ ∧ _ ∧ _ ∧ _ ∧ _ from ⟨(b34.cell (p := ⟨w.heap.size, 0, none⟩) ltc).trans q0c, (b34.cell (p := ⟨w.heap.size, 1, none⟩) ltc).trans q1c, (b34.cell (p := ⟨bA, oA, none⟩) lA).trans xm0, (b34.cell (p := ⟨bA, oA + 1, none⟩) lA).trans xm1, (b34.cell (p := ⟨bB, oB, none⟩) lB).trans xc0, (b34.cell (p := ⟨bB, oB + 1, none⟩) lB).trans xc1⟩)
          clear b34
          by_cases hq : sm = ch
          · have RQ : Hid (bpB s ms cs as_ = (chkI s m0 c0 a0 0 && chkI s m1 c1 a1 1)) := by show _ = _; rw [RS.out, hq]; simp
            clear RS
            subst hq
            go_wp2_with fail
            go_region_held3 (fun w' => w'.cell? ⟨w.heap.size, 0, none⟩ = some (.slice (some ⟨bA, oA, none⟩) 2 c) ∧ w'.cell? ⟨w.heap.size, 1, none⟩ = some (.slice (some ⟨bB, oB, none⟩) 2 d) ∧ w'.cell? ⟨bA, oA, none⟩ = some (.int .i64 m0) ∧ w'.cell? ⟨bA, oA + 1, none⟩ = some (.int .i64 m1) ∧ w'.cell? ⟨bB, oB, none⟩ = some (.int .i64 c0) ∧ w'.cell? ⟨bB, oB + 1, none⟩ = some (.int .i64 c1)) (first | exact KS1.out | exact KS2.out) (first | (go_at_call 61; refine (challenge_any _ _ _ [s, m0, m1] _ N1.out MODS).mono ?_; rintro e w4 ⟨rfl, rfl⟩; rw [CH.out]))
            go_wp2_with fail
            go_loopw [49] (fun i wr => ((i = .int .i64 0) ∨ (i = .int .i64 1 ∧ Hid (chkI s m0 c0 a0 0 = true)) ∨ (i = .int .i64 2 ∧ Hid (chkI s m0 c0 a0 0 = true) ∧ Hid (chkI s m1 c1 a1 1 = true))) ∧ ∃ q, wr = ((w3.alloc (.cells #[.int .i64 s, .int .i64 m0, .int .i64 m1] 2)).drewN q)) (fun i _ => 2 - (intOf i).toNat)
            case atStart => exact ⟨.inl rfl, 1, rfl⟩
            case round =>
              obtain ⟨hi, q, rfl⟩ := hrel
              rcases hi with rfl | ⟨rfl, K0⟩ | ⟨rfl, K0, K1⟩
              ·
                obtain ⟨p1, hp1⟩ : ∃ p1, pw 9 a0.toNat = p1 := ⟨_, rfl⟩
                obtain ⟨o, ho⟩ : ∃ o, openO s 0 = o := ⟨_, rfl⟩
                have bo := openO_bd (s := s) (bit := 0) (by omega) (by omega)
                rw [ho] at bo
                obtain ⟨p2, hp2⟩ : ∃ p2, pw o c0.toNat = p2 := ⟨_, rfl⟩
                have bp1 : 0 ≤ p2 ∧ p2 < 1000000007 := by rw [← hp2]; exact ⟨pw_lo _ _, pw_hi _ _⟩
                obtain ⟨x, hx⟩ : ∃ x, m0 * p2 % 1000000007 = x := ⟨_, rfl⟩
                have CK : Hid (chkI s m0 c0 a0 0 = (p1 == x)) := by show _ = _; rw [← hx, ← hp2, ← ho, ← hp1]; rfl
                have HP1 := Lib.hid hp1
                have HO := Lib.hid ho
                have HP2 := Lib.hid hp2
                have mb1 : 0 ≤ m0 * p2 := Int.mul_nonneg (by omega) bp1.1
                have mb2 : m0 * p2 ≤ 1000000007 * 1000000007 := Int.mul_le_mul (by omega) (by omega) bp1.1 (by omega)
                have W1 : IntKind.i64.wrap (m0 * p2) = m0 * p2 := IntWalk.i64_in _ (by omega)
                have T1 : (m0 * p2).tmod 1000000007 = x := by rw [Int.tmod_eq_emod_of_nonneg mb1]; exact hx
                clear hp1 ho hp2 hx mb1 mb2
                by_cases hq : p1 = x
                · have CT : Hid (chkI s m0 c0 a0 0 = true) := by show _ = _; rw [CK.out, hq]; simp
                  clear CK
                  subst hq
                  go_wp2_with fail
                  go_quiet ((first | (go_at_call 58; first | (with_reducible exact quiet_left (power_to HP1.out _ (by omega) (by omega) (by omega) (by omega))) | (with_reducible exact quiet_left (power_to HP2.out _ (by omega) (by omega) (by omega) (by omega))) | (with_reducible exact quiet_add_left (power_to HP1.out _ (by omega) (by omega) (by omega) (by omega))) | (with_reducible exact quiet_add_left (power_to HP2.out _ (by omega) (by omega) (by omega) (by omega)))) | (go_at_call 60; first | (with_reducible exact quiet_left (opened_to HO.out _ (by omega) (by omega))) | (with_reducible exact quiet_add_left (opened_to HO.out _ (by omega) (by omega))))))
                  clear W1 T1
                  go_wp2_with fail
                  go_roundw
                  case rel => exact ⟨.inr (.inl ⟨rfl, CT⟩), _, rfl⟩
                  case measure => simp [intOf]
                · have CT : Hid (chkI s m0 c0 a0 0 = false) := by show _ = _; rw [CK.out]; simp [hq]
                  clear CK
                  go_wp2_with fail
                  go_quiet ((first | (go_at_call 58; first | (with_reducible exact quiet_left (power_to HP1.out _ (by omega) (by omega) (by omega) (by omega))) | (with_reducible exact quiet_left (power_to HP2.out _ (by omega) (by omega) (by omega) (by omega))) | (with_reducible exact quiet_add_left (power_to HP1.out _ (by omega) (by omega) (by omega) (by omega))) | (with_reducible exact quiet_add_left (power_to HP2.out _ (by omega) (by omega) (by omega) (by omega)))) | (go_at_call 60; first | (with_reducible exact quiet_left (opened_to HO.out _ (by omega) (by omega))) | (with_reducible exact quiet_add_left (opened_to HO.out _ (by omega) (by omega))))))
                  clear W1 T1
                  go_wp2_with fail
                  go_ret
                  exact ⟨ret_bool (by rw [RQ.out, CT.out]; simp), below_drewN (below_drewN b04.out _) _⟩
              ·
                obtain ⟨p1, hp1⟩ : ∃ p1, pw 9 a1.toNat = p1 := ⟨_, rfl⟩
                obtain ⟨o, ho⟩ : ∃ o, openO s 1 = o := ⟨_, rfl⟩
                have bo := openO_bd (s := s) (bit := 1) (by omega) (by omega)
                rw [ho] at bo
                obtain ⟨p2, hp2⟩ : ∃ p2, pw o c1.toNat = p2 := ⟨_, rfl⟩
                have bp1 : 0 ≤ p2 ∧ p2 < 1000000007 := by rw [← hp2]; exact ⟨pw_lo _ _, pw_hi _ _⟩
                obtain ⟨x, hx⟩ : ∃ x, m1 * p2 % 1000000007 = x := ⟨_, rfl⟩
                have CK : Hid (chkI s m1 c1 a1 1 = (p1 == x)) := by show _ = _; rw [← hx, ← hp2, ← ho, ← hp1]; rfl
                have HP1 := Lib.hid hp1
                have HO := Lib.hid ho
                have HP2 := Lib.hid hp2
                have mb1 : 0 ≤ m1 * p2 := Int.mul_nonneg (by omega) bp1.1
                have mb2 : m1 * p2 ≤ 1000000007 * 1000000007 := Int.mul_le_mul (by omega) (by omega) bp1.1 (by omega)
                have W1 : IntKind.i64.wrap (m1 * p2) = m1 * p2 := IntWalk.i64_in _ (by omega)
                have T1 : (m1 * p2).tmod 1000000007 = x := by rw [Int.tmod_eq_emod_of_nonneg mb1]; exact hx
                clear hp1 ho hp2 hx mb1 mb2
                by_cases hq : p1 = x
                · have CT : Hid (chkI s m1 c1 a1 1 = true) := by show _ = _; rw [CK.out, hq]; simp
                  clear CK
                  subst hq
                  go_wp2_with fail
                  go_quiet ((first | (go_at_call 58; first | (with_reducible exact quiet_left (power_to HP1.out _ (by omega) (by omega) (by omega) (by omega))) | (with_reducible exact quiet_left (power_to HP2.out _ (by omega) (by omega) (by omega) (by omega))) | (with_reducible exact quiet_add_left (power_to HP1.out _ (by omega) (by omega) (by omega) (by omega))) | (with_reducible exact quiet_add_left (power_to HP2.out _ (by omega) (by omega) (by omega) (by omega)))) | (go_at_call 60; first | (with_reducible exact quiet_left (opened_to HO.out _ (by omega) (by omega))) | (with_reducible exact quiet_add_left (opened_to HO.out _ (by omega) (by omega))))))
                  clear W1 T1
                  go_wp2_with fail
                  go_roundw
                  case rel => exact ⟨.inr (.inr ⟨rfl, K0, CT⟩), _, rfl⟩
                  case measure => simp [intOf]
                · have CT : Hid (chkI s m1 c1 a1 1 = false) := by show _ = _; rw [CK.out]; simp [hq]
                  clear CK
                  go_wp2_with fail
                  go_quiet ((first | (go_at_call 58; first | (with_reducible exact quiet_left (power_to HP1.out _ (by omega) (by omega) (by omega) (by omega))) | (with_reducible exact quiet_left (power_to HP2.out _ (by omega) (by omega) (by omega) (by omega))) | (with_reducible exact quiet_add_left (power_to HP1.out _ (by omega) (by omega) (by omega) (by omega))) | (with_reducible exact quiet_add_left (power_to HP2.out _ (by omega) (by omega) (by omega) (by omega)))) | (go_at_call 60; first | (with_reducible exact quiet_left (opened_to HO.out _ (by omega) (by omega))) | (with_reducible exact quiet_add_left (opened_to HO.out _ (by omega) (by omega))))))
                  clear W1 T1
                  go_wp2_with fail
                  go_ret
                  exact ⟨ret_bool (by rw [RQ.out, CT.out]; simp), below_drewN (below_drewN b04.out _) _⟩
              · go_wp2_with fail
                go_ret
                exact ⟨ret_bool (by rw [RQ.out, K0.out, K1.out]; rfl), below_drewN b04.out _⟩
          · have RQ : Hid (bpB s ms cs as_ = false) := by show _ = _; rw [RS.out]; simp [hq]
            have hq2 : (sm == ch) = false := by simpa using hq
            clear RS
            go_wp2_with fail
            go_region_held3 (fun w' => w'.cell? ⟨w.heap.size, 0, none⟩ = some (.slice (some ⟨bA, oA, none⟩) 2 c) ∧ w'.cell? ⟨w.heap.size, 1, none⟩ = some (.slice (some ⟨bB, oB, none⟩) 2 d) ∧ w'.cell? ⟨bA, oA, none⟩ = some (.int .i64 m0) ∧ w'.cell? ⟨bA, oA + 1, none⟩ = some (.int .i64 m1) ∧ w'.cell? ⟨bB, oB, none⟩ = some (.int .i64 c0) ∧ w'.cell? ⟨bB, oB + 1, none⟩ = some (.int .i64 c1)) (first | exact KS1.out | exact KS2.out) (first | (go_at_call 61; refine (challenge_any _ _ _ [s, m0, m1] _ N1.out MODS).mono ?_; rintro e w4 ⟨rfl, rfl⟩; rw [CH.out]))
            go_wp2_with fail
            go_ret
            exact ⟨ret_bool RQ.out.symm, below_drewN b04.out 1⟩
end Go.Proofs.Ytnjnngnagdhaiaa
