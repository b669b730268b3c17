/- Proving a bit: the program's walk for the bit 1. -/
import Derived.Test.YtnjnngnagdhaiaaProve2
namespace Go.Proofs.Ytnjnngnagdhaiaa
set_option linter.unusedVariables false
open Go.RowKit
set_option maxRecDepth 100000 in
set_option maxHeartbeats 4000000 in
theorem proveBit_one (key : Int) (A : Option Addr) (n c : Nat) (zs : List Int) (w : World) (h : Ints .i64 w A n c zs) (hk : expB key = true) (hz : allB zs 3 expB = true) :
    Calls Try.prog 15 #[.int .i64 1, .int .i64 key, .slice A n c] w (GivesBP (prM 1 key zs) (prC 1 key zs) (prA 1 key zs) true w) := by
  have HB : Hid (inR 1 0 1 = true) := by show _ = _; decide
  have bk := expB_true hk
  have HK := Lib.hid hk
  have HZ := Lib.hid hz
  obtain ⟨n0, n1, n2, rfl⟩ : ∃ n0 n1 n2, zs = [n0, n1, n2] := by
    obtain ⟨l, _⟩ := allB_true.1 hz
    match zs, l with
    | [x, y, z], _ => exact ⟨x, y, z, rfl⟩
  obtain rfl : n = 3 := by have := h.1; simp at this; omega
  have h3 := h.short
  have bz : ∀ z ∈ [n0, n1, n2], expB z = true := (allB_true.1 hz).2
  have bn0 := expB_true (bz n0 (by simp))
  have bn1 := expB_true (bz n1 (by simp))
  have bn2 := expB_true (bz n2 (by simp))
  clear hk hz bz
  obtain ⟨bA, oA, x0, rfl, hbA, d0, _, _, hx0⟩ := h.at (j := 0) (by omega)
  obtain ⟨bA', oA', x1, eA, _, d1, _, _, hx1⟩ := h.at (j := 1) (by omega)
  obtain ⟨bA2, oA2, x2, eA2, _, d2, _, _, hx2⟩ := h.at (j := 2) (by omega)
  simp only [Option.some.injEq, Addr.mk.injEq, and_true] at eA eA2
  obtain ⟨rfl, rfl⟩ := eA
  obtain ⟨rfl, rfl⟩ := eA2
  obtain rfl : n0 = x0 := by simpa using hx0.out
  obtain rfl : n1 = x1 := by simpa using hx1.out
  obtain rfl : n2 = x2 := by simpa using hx2.out
  have D0 := Lib.hid d0
  have D1 := Lib.hid d1
  have D2 := Lib.hid d2
  clear d0 d1 d2 hx0 hx1 hx2
  obtain ⟨s, hs⟩ : ∃ x, sealO 1 key = x := ⟨_, rfl⟩
  have bs : 0 ≤ s ∧ s < 1000000007 := by rw [← hs]; exact ⟨sealO_lo _ _, sealO_hi _ _⟩
  obtain ⟨p0, hp0⟩ : ∃ x, pw 9 n0.toNat = x := ⟨_, rfl⟩
  have bp0 : 0 ≤ p0 ∧ p0 < 1000000007 := by rw [← hp0]; exact ⟨pw_lo _ _, pw_hi _ _⟩
  obtain ⟨v1, hv1⟩ : ∃ x, pw 9 n2.toNat = x := ⟨_, rfl⟩
  have bv1 : 0 ≤ v1 ∧ v1 < 1000000007 := by rw [← hv1]; exact ⟨pw_lo _ _, pw_hi _ _⟩
  obtain ⟨v2, hv2⟩ : ∃ x, openO s 0 = x := ⟨_, rfl⟩
  have bv2 : 0 ≤ v2 ∧ v2 < 1000000007 := by rw [← hv2]; exact openO_bd bs.1 bs.2
  obtain ⟨v3, hv3⟩ : ∃ x, pw v2 n1.toNat = x := ⟨_, rfl⟩
  have bv3 : 0 ≤ v3 ∧ v3 < 1000000007 := by rw [← hv3]; exact ⟨pw_lo _ _, pw_hi _ _⟩
  obtain ⟨v4, hv4⟩ : ∃ x, pw v3 1000000005 = x := ⟨_, rfl⟩
  have bv4 : 0 ≤ v4 ∧ v4 < 1000000007 := by rw [← hv4]; exact ⟨pw_lo _ _, pw_hi _ _⟩
  obtain ⟨om, hom⟩ : ∃ x, mm v1 v4 = x := ⟨_, rfl⟩
  have bom : 0 ≤ om ∧ om < 1000000007 := by rw [← hom]; exact ⟨mm_lo _ _, mm_hi _ _⟩
  have EOM : otherM s 1 n1 n2 = om := by
    have := otherM_impl (bit := 1) (key := key) (n1 := n1) (n2 := n2) (by omega) (by omega)
    rw [hs, hv1, show (1 : Int) - 1 = 0 from rfl, hv2, hv3, hv4, hom] at this
    exact this.symm
  have EM : prM 1 key [n0, n1, n2] = [om, p0] := by
    unfold prM; rw [hs]; simp [two, EOM, hp0]
  obtain ⟨sm, hsm⟩ : ∃ x, chal [s, om, p0] = x := ⟨_, rfl⟩
  have ES : prS 1 key [n0, n1, n2] = sm := by unfold prS; rw [EM, hs, hsm]
  have bsm : 0 ≤ sm ∧ sm < 500000003 := by rw [← hsm]; exact chal_bd _
  obtain ⟨cc, hcc⟩ : ∃ x, ownC sm n1 = x := ⟨_, rfl⟩
  have bcc : 0 ≤ cc ∧ cc < 500000003 := by rw [← hcc]; unfold ownC; omega
  have EC : prC 1 key [n0, n1, n2] = [n1, cc] := by unfold prC; rw [ES]; simp [two, hcc]
  obtain ⟨aa, haa⟩ : ∃ x, ownA cc n0 key = x := ⟨_, rfl⟩
  have baa : 0 ≤ aa ∧ aa < 500000003 := by rw [← haa]; unfold ownA; omega
  have EA : prA 1 key [n0, n1, n2] = [n2, aa] := by unfold prA; rw [ES]; simp [two, hcc, haa]
  have HS := Lib.hid hs
  have HP0 := Lib.hid hp0
  have HV1 := Lib.hid hv1
  have HV2 := Lib.hid hv2
  have HV3 := Lib.hid hv3
  have HV4 := Lib.hid hv4
  have HOM := Lib.hid hom
  have HSM := Lib.hid hsm
  have HCC := Lib.hid hcc
  have HAA := Lib.hid haa
  have XM := Lib.hid EM
  have XC := Lib.hid EC
  have XA := Lib.hid EA
  have MODS : Hid (∀ z ∈ [s, om, p0], modB z = true) := by
    intro z hz
    simp at hz
    rcases hz with rfl | rfl | rfl <;> exact inR_true.2 ⟨by omega, by omega⟩
  clear hs hp0 hv1 hv2 hv3 hv4 hom hsm hcc haa EM EC EA ES EOM
  have hmk : ∀ W : World, (Instr.makeSlice 29 (.int .i64 2) (.int .i64 2)).run Try.prog W = .ok (.slice (some ⟨W.heap.size, 0, none⟩) 2 2) (W.alloc (.cells #[.int .i64 0, .int .i64 0] 2)) := fun W => by
    have := run_make_row' (P := Try.prog) 29 2 (.int .i64 0) 8 Try.underlying29 info_int rfl .i64 .i64 2 (by omega) (by omega) W
    rw [show madeCells #[Value.int .i64 0] 2 = #[.int .i64 0, .int .i64 0] from Array.toList_inj.1 (by rw [toList_madeCells_one]; rfl)] at this
    exact this
  have b0 := bel_alloc w (.cells [.slice none 0 0, .slice none 0 0, .slice none 0 0].toArray 31)
  have C0 := Cs.new w [.slice none 0 0, .slice none 0 0, .slice none 0 0] 31
  go_enter Try.func15, Try.ntmps15
  go_wp2_with fail
  refine (within_val HB.out _).mono ?_
  rintro e w' ⟨rfl, rfl⟩
  go_wp2_with fail
  refine (isExponent_any _ _).mono ?_
  rintro e w' ⟨rfl, rfl⟩
  rw [HK.out]
  go_wp2_with fail
  refine (areAll_isExponent _ 3 c [n0, n1, n2] 3 _ (h.below b0)).mono ?_
  rintro e w1 ⟨rfl, b1⟩
  rw [HZ.out]
  have bb1 := bel_trans b0 b1
  have C1 := C0.below b1
  have q0a := C1.cell 0 rfl
  have q1a := C1.cell 1 rfl
  have q2a := C1.cell 2 rfl
  have f0a := C1.free 0 rfl
  have f1a := C1.free 1 rfl
  have f2a := C1.free 2 rfl
  have lta := C1.1
  go_wp2_with fail
  refine (sealed_any _ _ _ (by omega) (by omega) (by omega) (by omega)).mono ?_
  rintro e w' ⟨rfl, rfl⟩
  rw [HS.out]
  go_wp2_with fail
  have z1 := bb1.size
  go_cut [10] (fun p wx => ∃ g a b d : Nat, p = .pointer (some ⟨g, 0, none⟩) ∧ PV wx w.heap.size w.heap.size g a b d [0, 0] [0, 0] [0, 0] bA oA n0 n1 n2 ∧ Below w.heap.size w wx)
  case first =>
    have Y0 := Lib.hid ((bb1.cell (p := ⟨bA, oA, none⟩) hbA).trans D0.out)
    have Y1 := Lib.hid ((bb1.cell (p := ⟨bA, oA + 1, none⟩) hbA).trans D1.out)
    have Y2 := Lib.hid ((bb1.cell (p := ⟨bA, oA + 2, none⟩) hbA).trans D2.out)
    have hkA : bA < w1.heap.size := Nat.lt_of_lt_of_le hbA z1
    go_region
    all_goals
      go_wp2_with fail
      go_meet
    all_goals
      case rel => exact ⟨_, _, _, _, rfl, pv_made (bel4 w1 _ _ _ _) C1 hkA Y0.out Y1.out Y2.out (Nat.le_refl _) (by first | exact cs4_0 _ _ _ _ _ _ | exact cs4_1 _ _ _ _ _ _ | exact cs4_2 _ _ _ _ _ _ | exact cs4_3 _ _ _ _ _ _) (by first | exact own4_0 _ _ _ _ | exact own4_1 _ _ _ _ | exact own4_2 _ _ _ _ | exact own4_3 _ _ _ _) (by first | exact own4_0 _ _ _ _ | exact own4_1 _ _ _ _ | exact own4_2 _ _ _ _ | exact own4_3 _ _ _ _) (by first | exact own4_0 _ _ _ _ | exact own4_1 _ _ _ _ | exact own4_2 _ _ _ _ | exact own4_3 _ _ _ _) ⟨by omega, by omega, by omega, by omega, by omega, by omega, by omega⟩, bel_trans bb1 (bel4 w1 _ _ _ _)⟩
  case rest =>
    obtain ⟨g, a, b, d, rfl, P, hbel⟩ := hcut
    clear C1 q0a q1a q2a f0a f1a f2a lta b0 C0 bb1 z1 b1
    obtain ⟨W4, hW4⟩ : ∃ W, W = wc := ⟨_, rfl⟩
    subst hW4
    have L := P.lo
    have g04 := P.cg.cell 0 rfl
    have g14 := P.cg.cell 1 rfl
    have g24 := P.cg.cell 2 rfl
    have a04 := P.oa.cell (j := 0) rfl
    have a14 := P.oa.cell (j := 1) rfl
    have b04 := P.ob.cell (j := 0) rfl
    have b14 := P.ob.cell (j := 1) rfl
    have c04 := P.oc.cell (j := 0) rfl
    have c14 := P.oc.cell (j := 1) rfl
    have fa04 := P.oa.free 0
    have fa14 := P.oa.free 1
    have fb04 := P.ob.free 0
    have fb14 := P.ob.free 1
    have fc04 := P.oc.free 0
    have fc14 := P.oc.free 1
    have y04 := P.y0
    have y14 := P.y1
    have y24 := P.y2
    go_wp2_with fail
    go_cut [] (fun wx => PV wx w.heap.size w.heap.size g a b d [0, p0] [0, 0] [0, 0] bA oA n0 n1 n2 ∧ Below w.heap.size w wx)
    case first =>
      have P5 := P.setA 1 p0 (by omega) (by omega)
      have K := Lib.hid (And.intro (P5.cg.cell 0 rfl) P5.y0)
      go_region_held3 (fun w' => w'.cell? ⟨g, 0, none⟩ = some (.slice (some ⟨a, 0, none⟩) 2 2) ∧ w'.cell? ⟨bA, oA, none⟩ = some (.int .i64 n0)) (first | exact ⟨g04, y04⟩ | exact K.out) (first | (go_at_call 58; refine (power_to HP0.out _ (by omega) (by omega) (by omega) (by omega)).mono ?_; rintro e w' ⟨rfl, rfl⟩))
      go_wp2_with fail
      go_meet
      case rel => exact ⟨P5.drew, (hbel.setCell (p := ⟨a, 1, none⟩) L.2.2.1 _).drew⟩
    case rest =>
      obtain ⟨P, hbel⟩ := hcut
      clear g04 g14 g24 a04 a14 b04 b14 c04 c14 fa04 fa14 fb04 fb14 fc04 fc14 y04 y14 y24
      obtain ⟨W5, hW5⟩ : ∃ W, W = wc := ⟨_, rfl⟩
      subst hW5
      have g05 := P.cg.cell 0 rfl
      have g15 := P.cg.cell 1 rfl
      have g25 := P.cg.cell 2 rfl
      have a05 := P.oa.cell (j := 0) rfl
      have a15 := P.oa.cell (j := 1) rfl
      have b05 := P.ob.cell (j := 0) rfl
      have b15 := P.ob.cell (j := 1) rfl
      have c05 := P.oc.cell (j := 0) rfl
      have c15 := P.oc.cell (j := 1) rfl
      have fa05 := P.oa.free 0
      have fa15 := P.oa.free 1
      have fb05 := P.ob.free 0
      have fb15 := P.ob.free 1
      have fc05 := P.oc.free 0
      have fc15 := P.oc.free 1
      have y05 := P.y0
      have y15 := P.y1
      have y25 := P.y2
      have nebd : b ≠ d := P.ne.1.2.2.2.2.2.2.2.2.2
      have nedb : d ≠ b := Ne.symm nebd
      go_wp2_with fail
      go_cut [] (fun wx => PV wx w.heap.size w.heap.size g a b d [0, p0] [n1, 0] [n2, 0] bA oA n0 n1 n2 ∧ Below w.heap.size w wx)
      case first =>
        have PB := P.setB 0 n1 (by omega) (by omega)
        have PD := P.setC 0 n2 (by omega) (by omega)
        have PBD := PB.setC 0 n2 (by omega) (by omega)
        have PDB := PD.setB 0 n1 (by omega) (by omega)
        have KB := Lib.hid (show _ ∧ _ ∧ _ ∧ _ from ⟨PB.cg.cell 1 rfl, PB.cg.cell 2 rfl, PB.y1, PB.y2⟩)
        have KD := Lib.hid (show _ ∧ _ ∧ _ ∧ _ from ⟨PD.cg.cell 1 rfl, PD.cg.cell 2 rfl, PD.y1, PD.y2⟩)
        have KBD := Lib.hid (show _ ∧ _ ∧ _ ∧ _ from ⟨PBD.cg.cell 1 rfl, PBD.cg.cell 2 rfl, PBD.y1, PBD.y2⟩)
        have KDB := Lib.hid (show _ ∧ _ ∧ _ ∧ _ from ⟨PDB.cg.cell 1 rfl, PDB.cg.cell 2 rfl, PDB.y1, PDB.y2⟩)
        go_region_held3 (fun w' => w'.cell? ⟨g, 1, none⟩ = some (.slice (some ⟨b, 0, none⟩) 2 2) ∧ w'.cell? ⟨g, 2, none⟩ = some (.slice (some ⟨d, 0, none⟩) 2 2) ∧ w'.cell? ⟨bA, oA + 1, none⟩ = some (.int .i64 n1) ∧ w'.cell? ⟨bA, oA + 2, none⟩ = some (.int .i64 n2)) (first | exact ⟨g15, g25, y15, y25⟩ | exact KB.out | exact KD.out | exact KBD.out | exact KDB.out) (fail)
        all_goals
          go_wp2_with fail
          go_meet
        all_goals
          case rel => first | exact ⟨PBD.drew, ((hbel.setCell (p := ⟨b, 0, none⟩) L.2.2.2.1 _).setCell (p := ⟨d, 0, none⟩) L.2.2.2.2 _).drew⟩ | exact ⟨PDB.drew, ((hbel.setCell (p := ⟨d, 0, none⟩) L.2.2.2.2 _).setCell (p := ⟨b, 0, none⟩) L.2.2.2.1 _).drew⟩
      case rest =>
        obtain ⟨P, hbel⟩ := hcut
        clear g05 g15 g25 a05 a15 b05 b15 c05 c15 fa05 fa15 fb05 fb15 fc05 fc15 y05 y15 y25
        obtain ⟨W6, hW6⟩ : ∃ W, W = wc := ⟨_, rfl⟩
        subst hW6
        have g06 := P.cg.cell 0 rfl
        have g16 := P.cg.cell 1 rfl
        have g26 := P.cg.cell 2 rfl
        have a06 := P.oa.cell (j := 0) rfl
        have a16 := P.oa.cell (j := 1) rfl
        have b06 := P.ob.cell (j := 0) rfl
        have b16 := P.ob.cell (j := 1) rfl
        have c06 := P.oc.cell (j := 0) rfl
        have c16 := P.oc.cell (j := 1) rfl
        have fa06 := P.oa.free 0
        have fa16 := P.oa.free 1
        have fb06 := P.ob.free 0
        have fb16 := P.ob.free 1
        have fc06 := P.oc.free 0
        have fc16 := P.oc.free 1
        have y06 := P.y0
        have y16 := P.y1
        have y26 := P.y2
        have X0 : 0 ≤ v1 * v4 := Int.mul_nonneg bv1.1 bv4.1
        have X1 : v1 * v4 ≤ 1000000007 * 1000000007 := Int.mul_le_mul (by omega) (by omega) bv4.1 (by omega)
        have X2 : IntKind.i64.wrap (v1 * v4) = v1 * v4 := IntWalk.i64_in _ (by omega)
        have X3 : (v1 * v4).tmod 1000000007 = om := by rw [Int.tmod_eq_emod_of_nonneg X0]; exact HOM.out
        clear X0 X1
        go_wp2_with fail
        go_cut [] (fun wx => PV wx w.heap.size w.heap.size g a b d [om, p0] [n1, 0] [n2, 0] bA oA n0 n1 n2 ∧ Below w.heap.size w wx)
        case first =>
          have PA := P.setA 0 om (by omega) (by omega)
          have K := Lib.hid (show _ ∧ _ ∧ _ from ⟨PA.cg.cell 0 rfl, PA.y1, PA.y2⟩)
          go_region_held3 (fun w' => w'.cell? ⟨g, 0, none⟩ = some (.slice (some ⟨a, 0, none⟩) 2 2) ∧ w'.cell? ⟨bA, oA + 1, none⟩ = some (.int .i64 n1) ∧ w'.cell? ⟨bA, oA + 2, none⟩ = some (.int .i64 n2)) (first | exact ⟨g06, y16, y26⟩ | exact K.out) (first | (go_at_call 58; first | ((with_reducible refine (power_to HV1.out _ (by omega) (by omega) (by omega) (by omega)).mono ?_); rintro e w' ⟨rfl, rfl⟩) | ((with_reducible refine (power_to HV3.out _ (by omega) (by omega) (by omega) (by omega)).mono ?_); rintro e w' ⟨rfl, rfl⟩)) | (go_at_call 60; refine (opened_to HV2.out _ (by omega) (by omega)).mono ?_; rintro e w' ⟨rfl, rfl⟩) | (go_at_call 59; refine (inverse_to HV4.out _ (by omega) (by omega)).mono ?_; rintro e w' ⟨rfl, rfl⟩))
          all_goals
            go_wp2_with fail
            go_meet
          all_goals
            case rel => exact ⟨PA.drew, (hbel.setCell (p := ⟨a, 0, none⟩) L.2.2.1 _).drew⟩
        case rest =>
          obtain ⟨P, hbel⟩ := hcut
          clear g06 g16 g26 a06 a16 b06 b16 c06 c16 fa06 fa16 fb06 fb16 fc06 fc16 y06 y16 y26 X2 X3
          obtain ⟨W7, hW7⟩ : ∃ W, W = wc := ⟨_, rfl⟩
          subst hW7
          have g07 := P.cg.cell 0 rfl
          have g17 := P.cg.cell 1 rfl
          have g27 := P.cg.cell 2 rfl
          have a07 := P.oa.cell (j := 0) rfl
          have a17 := P.oa.cell (j := 1) rfl
          have b07 := P.ob.cell (j := 0) rfl
          have b17 := P.ob.cell (j := 1) rfl
          have c07 := P.oc.cell (j := 0) rfl
          have c17 := P.oc.cell (j := 1) rfl
          have fa07 := P.oa.free 0
          have fa17 := P.oa.free 1
          have fb07 := P.ob.free 0
          have fb17 := P.ob.free 1
          have fc07 := P.oc.free 0
          have fc17 := P.oc.free 1
          have y07 := P.y0
          have y17 := P.y1
          have y27 := P.y2
          go_wp2_with fail
          go_cut [11] (fun t wx => t = .int .i64 sm ∧ PV wx w.heap.size w.heap.size g a b d [om, p0] [n1, 0] [n2, 0] bA oA n0 n1 n2 ∧ Below w.heap.size w wx)
          case first =>
            have b8 := bel_alloc W7 (.cells [.int .i64 s, .int .i64 om, .int .i64 p0].toArray 2)
            have P8 := P.below b8
            have K := Lib.hid (show _ ∧ _ ∧ _ from ⟨P8.cg.cell 0 rfl, P8.oa.cell (j := 0) rfl, P8.oa.cell (j := 1) rfl⟩)
            have N1 := Lib.hid ((Cs.new W7.drew [.int .i64 s, .int .i64 om, .int .i64 p0] 2).ints (n := 3) [s, om, p0] rfl rfl (by decide) (by intro z hz; simp at hz; rcases hz with rfl | rfl | rfl <;> omega))
            have B8 := Lib.hid (bel_trans hbel b8)
            clear b8
            go_region_held3 (fun w' => w'.cell? ⟨g, 0, none⟩ = some (.slice (some ⟨a, 0, none⟩) 2 2) ∧ w'.cell? ⟨a, 0, none⟩ = some (.int .i64 om) ∧ w'.cell? ⟨a, 1, none⟩ = some (.int .i64 p0)) (first | exact ⟨g07, a07, a17⟩ | exact K.out) (first | (go_at_call 61; refine (challenge_any _ _ _ [s, om, p0] _ N1.out MODS).mono ?_; rintro e w4 ⟨rfl, rfl⟩; rw [HSM.out]))
            go_wp2_with fail
            go_meet
            case rel => exact ⟨rfl, P8.drew, B8.out.drew⟩
          case rest =>
            obtain ⟨rfl, P, hbel⟩ := hcut
            clear g07 g17 g27 a07 a17 b07 b17 c07 c17 fa07 fa17 fb07 fb17 fc07 fc17 y07 y17 y27
            obtain ⟨W8, hW8⟩ : ∃ W, W = wc := ⟨_, rfl⟩
            subst hW8
            have g08 := P.cg.cell 0 rfl
            have g18 := P.cg.cell 1 rfl
            have g28 := P.cg.cell 2 rfl
            have a08 := P.oa.cell (j := 0) rfl
            have a18 := P.oa.cell (j := 1) rfl
            have b08 := P.ob.cell (j := 0) rfl
            have b18 := P.ob.cell (j := 1) rfl
            have c08 := P.oc.cell (j := 0) rfl
            have c18 := P.oc.cell (j := 1) rfl
            have fa08 := P.oa.free 0
            have fa18 := P.oa.free 1
            have fb08 := P.ob.free 0
            have fb18 := P.ob.free 1
            have fc08 := P.oc.free 0
            have fc18 := P.oc.free 1
            have y08 := P.y0
            have y18 := P.y1
            have y28 := P.y2
            have X2 : IntKind.i64.wrap (sm - n1) = sm - n1 := IntWalk.i64_in _ (by omega)
            have X4 : IntKind.i64.wrap (sm - n1 + 500000003) = sm - n1 + 500000003 := IntWalk.i64_in _ (by omega)
            have X3 : (sm - n1 + 500000003).tmod 500000003 = cc := by rw [Int.tmod_eq_emod_of_nonneg (by omega)]; exact HCC.out
            go_wp2_with fail
            go_cut [] (fun wx => PV wx w.heap.size w.heap.size g a b d [om, p0] [n1, cc] [n2, 0] bA oA n0 n1 n2 ∧ Below w.heap.size w wx)
            case first =>
              have PB := P.setB 1 cc (by omega) (by omega)
              have K := Lib.hid (show _ ∧ _ from ⟨PB.cg.cell 1 rfl, PB.y1⟩)
              go_region_held3 (fun w' => w'.cell? ⟨g, 1, none⟩ = some (.slice (some ⟨b, 0, none⟩) 2 2) ∧ w'.cell? ⟨bA, oA + 1, none⟩ = some (.int .i64 n1)) (first | exact ⟨g18, y18⟩ | exact K.out) (fail)
              go_wp2_with fail
              go_meet
              case rel => exact ⟨PB.drew, (hbel.setCell (p := ⟨b, 1, none⟩) L.2.2.2.1 _).drew⟩
            case rest =>
              obtain ⟨P, hbel⟩ := hcut
              clear g08 g18 g28 a08 a18 b08 b18 c08 c18 fa08 fa18 fb08 fb18 fc08 fc18 y08 y18 y28 X2 X3 X4
              obtain ⟨W9, hW9⟩ : ∃ W, W = wc := ⟨_, rfl⟩
              subst hW9
              have g09 := P.cg.cell 0 rfl
              have g19 := P.cg.cell 1 rfl
              have g29 := P.cg.cell 2 rfl
              have a09 := P.oa.cell (j := 0) rfl
              have a19 := P.oa.cell (j := 1) rfl
              have b09 := P.ob.cell (j := 0) rfl
              have b19 := P.ob.cell (j := 1) rfl
              have c09 := P.oc.cell (j := 0) rfl
              have c19 := P.oc.cell (j := 1) rfl
              have fa09 := P.oa.free 0
              have fa19 := P.oa.free 1
              have fb09 := P.ob.free 0
              have fb19 := P.ob.free 1
              have fc09 := P.oc.free 0
              have fc19 := P.oc.free 1
              have y09 := P.y0
              have y19 := P.y1
              have y29 := P.y2
              have X0 : 0 ≤ cc * key := Int.mul_nonneg bcc.1 bk.1
              have X1 : cc * key ≤ 500000003 * 500000003 := Int.mul_le_mul (by omega) (by omega) bk.1 (by omega)
              have X2 : IntKind.i64.wrap (cc * key) = cc * key := IntWalk.i64_in _ (by omega)
              have X4 : IntKind.i64.wrap (n0 + cc * key) = n0 + cc * key := IntWalk.i64_in _ (by omega)
              have X3 : (n0 + cc * key).tmod 500000003 = aa := by rw [Int.tmod_eq_emod_of_nonneg (by omega)]; exact HAA.out
              clear X0 X1
              go_wp2_with fail
              go_cut [] (fun wx => PV wx w.heap.size w.heap.size g a b d [om, p0] [n1, cc] [n2, aa] bA oA n0 n1 n2 ∧ Below w.heap.size w wx)
              case first =>
                have PC := P.setC 1 aa (by omega) (by omega)
                have K := Lib.hid (show _ ∧ _ ∧ _ ∧ _ from ⟨PC.cg.cell 2 rfl, PC.cg.cell 1 rfl, PC.y0, PC.ob.cell (j := 1) rfl⟩)
                go_region_held3 (fun w' => w'.cell? ⟨g, 2, none⟩ = some (.slice (some ⟨d, 0, none⟩) 2 2) ∧ w'.cell? ⟨g, 1, none⟩ = some (.slice (some ⟨b, 0, none⟩) 2 2) ∧ w'.cell? ⟨bA, oA, none⟩ = some (.int .i64 n0) ∧ w'.cell? ⟨b, 1, none⟩ = some (.int .i64 cc)) (first | exact ⟨g29, g19, y09, b19⟩ | exact K.out) (fail)
                go_wp2_with fail
                go_meet
                case rel => exact ⟨PC.drew, (hbel.setCell (p := ⟨d, 1, none⟩) L.2.2.2.2 _).drew⟩
              case rest =>
                obtain ⟨P, hbel⟩ := hcut
                clear g09 g19 g29 a09 a19 b09 b19 c09 c19 fa09 fa19 fb09 fb19 fc09 fc19 y09 y19 y29 X2 X3 X4
                obtain ⟨WA, hWA⟩ : ∃ W, W = wc := ⟨_, rfl⟩
                subst hWA
                have g0a := P.cg.cell 0 rfl
                have g1a := P.cg.cell 1 rfl
                have g2a := P.cg.cell 2 rfl
                have a0a := P.oa.cell (j := 0) rfl
                have a1a := P.oa.cell (j := 1) rfl
                have b0a := P.ob.cell (j := 0) rfl
                have b1a := P.ob.cell (j := 1) rfl
                have c0a := P.oc.cell (j := 0) rfl
                have c1a := P.oc.cell (j := 1) rfl
                have fa0a := P.oa.free 0
                have fa1a := P.oa.free 1
                have fb0a := P.ob.free 0
                have fb1a := P.ob.free 1
                have fc0a := P.oc.free 0
                have fc1a := P.oc.free 1
                have y0a := P.y0
                have y1a := P.y1
                have y2a := P.y2
                have r0 := P.cr.cell 0 rfl
                have r1 := P.cr.cell 1 rfl
                have r2 := P.cr.cell 2 rfl
                have fr0 := P.cr.free 0 rfl
                have fr1 := P.cr.free 1 rfl
                have fr2 := P.cr.free 2 rfl
                go_wp2_with fail
                obtain ⟨R, O1, O2, O3⟩ := P.put (.slice (some ⟨a, 0, none⟩) 2 2) (.slice (some ⟨b, 0, none⟩) 2 2) (.slice (some ⟨d, 0, none⟩) 2 2)
                obtain ⟨wz, hwz⟩ : ∃ z, putR WA w.heap.size (.slice (some ⟨a, 0, none⟩) 2 2) (.slice (some ⟨b, 0, none⟩) 2 2) (.slice (some ⟨d, 0, none⟩) 2 2) = z := ⟨_, rfl⟩
                rw [hwz] at R
                have k0 := R.cell 0 rfl
                have k1 := R.cell 1 rfl
                have k2 := R.cell 2 rfl
                have G := P.gives (bt := 1) (key := key) (zs := [n0, n1, n2]) hbel hwz.symm XM.out XC.out XA.out
                change bodyPost _ _ _ _ _ (putR WA w.heap.size (.slice (some ⟨a, 0, none⟩) 2 2) (.slice (some ⟨b, 0, none⟩) 2 2) (.slice (some ⟨d, 0, none⟩) 2 2))
                rw [hwz]
                exact bodyPost_ret (v := .tuple #[.agg #[.slice (some ⟨a, 0, none⟩) 2 2, .slice (some ⟨b, 0, none⟩) 2 2, .slice (some ⟨d, 0, none⟩) 2 2], .bool true]) (by simp [results, Try.results15, go_sem, k0, k1, k2]) rfl G
end Go.Proofs.Ytnjnngnagdhaiaa
