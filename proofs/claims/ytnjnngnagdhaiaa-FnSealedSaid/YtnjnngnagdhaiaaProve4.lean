/- Proving a bit: the model's walk. -/
import Derived.Test.YtnjnngnagdhaiaaProve
namespace Go.Proofs.Ytnjnngnagdhaiaa
set_option linter.unusedVariables false
open Go.RowKit
/-- As GivesBP, alone. -/
def GivesB1 (ms cs as_ : List Int) (w : World) (e : Ending) (w' : World) : Prop :=
  ∃ A c B d C f, e = .returned (.agg #[.slice A ms.length c, .slice B cs.length d, .slice C as_.length f]) ∧
    OwnI w' w.heap.size A ms.length c ms ∧ OwnI w' w.heap.size B cs.length d cs ∧ OwnI w' w.heap.size C as_.length f as_ ∧
    (Apart (.slice A ms.length c) (.slice B cs.length d) ∧ Apart (.slice A ms.length c) (.slice C as_.length f) ∧ Apart (.slice B cs.length d) (.slice C as_.length f)) ∧ Below w.heap.size w w'
theorem PV.gives1 {w : World} {r g a b c : Nat} {la lb lc : List Int} {k o : Nat} {n0 n1 n2 bt key : Int} {zs : List Int} {W w2 : World} (h : PV w W.heap.size r g a b c la lb lc k o n0 n1 n2) (hb : Below W.heap.size W w) (h2 : w2 = putR w r (.slice (some ⟨a, 0, none⟩) 2 2) (.slice (some ⟨b, 0, none⟩) 2 2) (.slice (some ⟨c, 0, none⟩) 2 2))
    (e1 : prM bt key zs = la) (e2 : prC bt key zs = lb) (e3 : prA bt key zs = lc) :
    GivesB1 (prM bt key zs) (prC bt key zs) (prA bt key zs) W (.returned (.agg #[.slice (some ⟨a, 0, none⟩) 2 2, .slice (some ⟨b, 0, none⟩) 2 2, .slice (some ⟨c, 0, none⟩) 2 2])) w2 := by
  obtain ⟨A, c1, B1, d1, C1, f1, he, r⟩ := h.gives hb h2 e1 e2 e3
  refine ⟨A, c1, B1, d1, C1, f1, ?_, r⟩
  simp only [Ending.returned.injEq, Value.tuple.injEq] at he
  have := congrArg (fun x : Array Value => x[0]?) he
  simp at this
  simpa using this
theorem bel5 (w : World) (o0 o1 o2 o3 : Obj) : Below w.heap.size w ((((w.alloc o0).alloc o1).alloc o2).alloc o3) := (bel_trans (bel_alloc _ o0) (bel_trans (bel_alloc _ o1) (bel_trans (bel_alloc _ o2) (bel_alloc _ o3))))
theorem pv_lit {w1 : World} {n B r k o : Nat} {n0 n1 n2 : Int} (hn : w1.heap.size = n) (cr : Cs w1 r [.slice none 0 0, .slice none 0 0, .slice none 0 0]) (hk : k < w1.heap.size)
    (y0 : w1.cell? ⟨k, o, none⟩ = some (.int .i64 n0)) (y1 : w1.cell? ⟨k, o + 1, none⟩ = some (.int .i64 n1)) (y2 : w1.cell? ⟨k, o + 2, none⟩ = some (.int .i64 n2)) (hB : B ≤ r) :
    PV ((((w1.alloc (.cells #[.int .i64 0, .int .i64 0] 2)).alloc (.cells #[.int .i64 0, .int .i64 0] 2)).alloc (.cells #[.int .i64 0, .int .i64 0] 2)).alloc (.cells #[.slice (some ⟨n, 0, none⟩) 2 2, .slice (some ⟨n + 1, 0, none⟩) 2 2, .slice (some ⟨n + 1 + 1, 0, none⟩) 2 2] 31)) B r (n + 1 + 1 + 1) n (n + 1) (n + 1 + 1) [0, 0] [0, 0] [0, 0] k o n0 n1 n2 := by
  subst hn
  exact pv_made (bel5 w1 _ _ _ _) cr hk y0 y1 y2 hB (cs_new (w := ((w1.alloc _).alloc _).alloc _) [.slice (some ⟨w1.heap.size, 0, none⟩) 2 2, .slice (some ⟨w1.heap.size + 1, 0, none⟩) 2 2, .slice (some ⟨w1.heap.size + 1 + 1, 0, none⟩) 2 2] _ (by simp)) ((((own_new rfl (Nat.le_refl _)).alloc _).alloc _).alloc _) (((own_new (w := w1.alloc _) (by simp) (by omega)).alloc _).alloc _) ((own_new (w := (w1.alloc _).alloc _) (by simp) (by omega)).alloc _) ⟨by omega, by omega, by omega, by omega, by omega, by omega, by omega⟩
set_option maxRecDepth 100000 in
set_option maxHeartbeats 4000000 in
theorem l09Prove_zero (key : Int) (A : Option Addr) (n c : Nat) (zs : List Int) (w : World) (h : Ints .i64 w A n c zs) (hk : expB key = true) (hz : allB zs 3 expB = true) :
    Calls Try.prog 68 #[.int .i64 0, .int .i64 key, .slice A n c] w (GivesB1 (prM 0 key zs) (prC 0 key zs) (prA 0 key zs) w) := by
  have HB : Hid (inR 0 0 1 = true) := by show _ = _; decide
  have bk := expB_true hk
  have HK := Lib.hid hk
  have HZ := Lib.hid hz
  obtain ⟨n0, n1, n2, rfl⟩ : ∃ n0 n1 n2, zs = [n0, n1, n2] := by
    obtain ⟨l, _⟩ := allB_true.1 hz
    match zs, l with
    | [x, y, z], _ => exact ⟨x, y, z, rfl⟩
  obtain rfl : n = 3 := by have := h.1; simp at this; omega
  have h3 := h.short
  have bz : ∀ z ∈ [n0, n1, n2], expB z = true := (allB_true.1 hz).2
  have bn0 := expB_true (bz n0 (by simp))
  have bn1 := expB_true (bz n1 (by simp))
  have bn2 := expB_true (bz n2 (by simp))
  clear hk hz bz
  obtain ⟨bA, oA, x0, rfl, hbA, d0, _, _, hx0⟩ := h.at (j := 0) (by omega)
  obtain ⟨bA', oA', x1, eA, _, d1, _, _, hx1⟩ := h.at (j := 1) (by omega)
  obtain ⟨bA2, oA2, x2, eA2, _, d2, _, _, hx2⟩ := h.at (j := 2) (by omega)
  simp only [Option.some.injEq, Addr.mk.injEq, and_true] at eA eA2
  obtain ⟨rfl, rfl⟩ := eA
  obtain ⟨rfl, rfl⟩ := eA2
  obtain rfl : n0 = x0 := by simpa using hx0.out
  obtain rfl : n1 = x1 := by simpa using hx1.out
  obtain rfl : n2 = x2 := by simpa using hx2.out
  have D0 := Lib.hid d0
  have D1 := Lib.hid d1
  have D2 := Lib.hid d2
  clear d0 d1 d2 hx0 hx1 hx2
  obtain ⟨s, hs⟩ : ∃ x, sealO 0 key = x := ⟨_, rfl⟩
  have bs : 0 ≤ s ∧ s < 1000000007 := by rw [← hs]; exact ⟨sealO_lo _ _, sealO_hi _ _⟩
  obtain ⟨p0, hp0⟩ : ∃ x, pw 9 n0.toNat = x := ⟨_, rfl⟩
  have bp0 : 0 ≤ p0 ∧ p0 < 1000000007 := by rw [← hp0]; exact ⟨pw_lo _ _, pw_hi _ _⟩
  obtain ⟨v1, hv1⟩ : ∃ x, pw 9 n2.toNat = x := ⟨_, rfl⟩
  have bv1 : 0 ≤ v1 ∧ v1 < 1000000007 := by rw [← hv1]; exact ⟨pw_lo _ _, pw_hi _ _⟩
  obtain ⟨v2, hv2⟩ : ∃ x, openO s 1 = x := ⟨_, rfl⟩
  have bv2 : 0 ≤ v2 ∧ v2 < 1000000007 := by rw [← hv2]; exact openO_bd bs.1 bs.2
  obtain ⟨e1, he1⟩ : ∃ x, (500000003 - n1) % 500000003 = x := ⟨_, rfl⟩
  have be1 : 0 ≤ e1 ∧ e1 < 500000003 := by omega
  obtain ⟨v4, hv4⟩ : ∃ x, pw v2 e1.toNat = x := ⟨_, rfl⟩
  have bv4 : 0 ≤ v4 ∧ v4 < 1000000007 := by rw [← hv4]; exact ⟨pw_lo _ _, pw_hi _ _⟩
  obtain ⟨om, hom⟩ : ∃ x, mm v1 v4 = x := ⟨_, rfl⟩
  have bom : 0 ≤ om ∧ om < 1000000007 := by rw [← hom]; exact ⟨mm_lo _ _, mm_hi _ _⟩
  have EOM : otherM s 0 n1 n2 = om := by
    unfold otherM
    rw [hv1, show (1 : Int) - 0 = 1 from rfl, hv2, he1, hv4, hom]
  have EM : prM 0 key [n0, n1, n2] = [p0, om] := by
    unfold prM; rw [hs]; simp [two, EOM, hp0]
  obtain ⟨sm, hsm⟩ : ∃ x, chal [s, p0, om] = x := ⟨_, rfl⟩
  have ES : prS 0 key [n0, n1, n2] = sm := by unfold prS; rw [EM, hs, hsm]
  have bsm : 0 ≤ sm ∧ sm < 500000003 := by rw [← hsm]; exact chal_bd _
  obtain ⟨cc, hcc⟩ : ∃ x, ownC sm n1 = x := ⟨_, rfl⟩
  have bcc : 0 ≤ cc ∧ cc < 500000003 := by rw [← hcc]; unfold ownC; omega
  have EC : prC 0 key [n0, n1, n2] = [cc, n1] := by unfold prC; rw [ES]; simp [two, hcc]
  obtain ⟨aa, haa⟩ : ∃ x, ownA cc n0 key = x := ⟨_, rfl⟩
  have baa : 0 ≤ aa ∧ aa < 500000003 := by rw [← haa]; unfold ownA; omega
  have EA : prA 0 key [n0, n1, n2] = [aa, n2] := by unfold prA; rw [ES]; simp [two, hcc, haa]
  have HS := Lib.hid hs
  have HP0 := Lib.hid hp0
  have HV1 := Lib.hid hv1
  have HV2 := Lib.hid hv2
  have HE1 := Lib.hid he1
  have HV4 := Lib.hid hv4
  have HOM := Lib.hid hom
  have HSM := Lib.hid hsm
  have HCC := Lib.hid hcc
  have HAA := Lib.hid haa
  have XM := Lib.hid EM
  have XC := Lib.hid EC
  have XA := Lib.hid EA
  have MODS : Hid (∀ z ∈ [s, p0, om], modB z = true) := by
    intro z hz
    simp at hz
    rcases hz with rfl | rfl | rfl <;> exact inR_true.2 ⟨by omega, by omega⟩
  clear hs hp0 hv1 hv2 he1 hv4 hom hsm hcc haa EM EC EA ES EOM
  have b0 := bel_alloc w (.cells [.slice none 0 0, .slice none 0 0, .slice none 0 0].toArray 31)
  have C0 := Cs.new w [.slice none 0 0, .slice none 0 0, .slice none 0 0] 31
  go_enter Try.func68, Try.ntmps68
  go_wp2_with fail
  refine (l09Of_any _ _ _ (by omega) (by omega) (by omega) (by omega)).mono ?_
  rintro e w' ⟨rfl, rfl⟩
  rw [HS.out]
  go_upto_region 3 with (fail)
  go_cut [9] (fun p wx => ∃ g a b d : Nat, p = .pointer (some ⟨g, 0, none⟩) ∧ PV wx w.heap.size w.heap.size g a b d [0, 0] [0, 0] [0, 0] bA oA n0 n1 n2 ∧ Below w.heap.size w wx)
  case first =>
    have Y0 := Lib.hid ((b0.cell (p := ⟨bA, oA, none⟩) hbA).trans D0.out)
    have Y1 := Lib.hid ((b0.cell (p := ⟨bA, oA + 1, none⟩) hbA).trans D1.out)
    have Y2 := Lib.hid ((b0.cell (p := ⟨bA, oA + 2, none⟩) hbA).trans D2.out)
    go_wp2_with fail
    go_meet
    case rel => exact ⟨_, _, _, _, rfl, pv_lit (by simp) C0 (by simp; omega) Y0.out Y1.out Y2.out (Nat.le_refl _), bel_trans b0 (bel5 _ _ _ _ _)⟩
  case rest =>
    obtain ⟨g, a, b, d, rfl, P, hbel⟩ := hcut
    clear b0 C0
    obtain ⟨W4, hW4⟩ : ∃ W, W = wc := ⟨_, rfl⟩
    subst hW4
    have L := P.lo
    have g04 := P.cg.cell 0 rfl
    have g14 := P.cg.cell 1 rfl
    have g24 := P.cg.cell 2 rfl
    have a04 := P.oa.cell (j := 0) rfl
    have a14 := P.oa.cell (j := 1) rfl
    have b04 := P.ob.cell (j := 0) rfl
    have b14 := P.ob.cell (j := 1) rfl
    have c04 := P.oc.cell (j := 0) rfl
    have c14 := P.oc.cell (j := 1) rfl
    have fa04 := P.oa.free 0
    have fa14 := P.oa.free 1
    have fb04 := P.ob.free 0
    have fb14 := P.ob.free 1
    have fc04 := P.oc.free 0
    have fc14 := P.oc.free 1
    have y04 := P.y0
    have y14 := P.y1
    have y24 := P.y2
    go_wp2_with fail
    go_cut [] (fun wx => PV wx w.heap.size w.heap.size g a b d [p0, 0] [0, 0] [0, 0] bA oA n0 n1 n2 ∧ Below w.heap.size w wx)
    case first =>
      have P5 := P.setA 0 p0 (by omega) (by omega)
      have K := Lib.hid (And.intro (P5.cg.cell 0 rfl) P5.y0)
      go_region_held3 (fun w' => w'.cell? ⟨g, 0, none⟩ = some (.slice (some ⟨a, 0, none⟩) 2 2) ∧ w'.cell? ⟨bA, oA, none⟩ = some (.int .i64 n0)) (first | exact ⟨g04, y04⟩ | exact K.out) (first | (go_at_call 96; refine (l09Power_to HP0.out _ (by omega) (by omega) (by omega) (by omega)).mono ?_; rintro e w' ⟨rfl, rfl⟩))
      go_wp2_with fail
      go_meet
      case rel => exact ⟨P5.drew, (hbel.setCell (p := ⟨a, 0, none⟩) L.2.2.1 _).drew⟩
    case rest =>
      obtain ⟨P, hbel⟩ := hcut
      clear g04 g14 g24 a04 a14 b04 b14 c04 c14 fa04 fa14 fb04 fb14 fc04 fc14 y04 y14 y24
      obtain ⟨W5, hW5⟩ : ∃ W, W = wc := ⟨_, rfl⟩
      subst hW5
      have g05 := P.cg.cell 0 rfl
      have g15 := P.cg.cell 1 rfl
      have g25 := P.cg.cell 2 rfl
      have a05 := P.oa.cell (j := 0) rfl
      have a15 := P.oa.cell (j := 1) rfl
      have b05 := P.ob.cell (j := 0) rfl
      have b15 := P.ob.cell (j := 1) rfl
      have c05 := P.oc.cell (j := 0) rfl
      have c15 := P.oc.cell (j := 1) rfl
      have fa05 := P.oa.free 0
      have fa15 := P.oa.free 1
      have fb05 := P.ob.free 0
      have fb15 := P.ob.free 1
      have fc05 := P.oc.free 0
      have fc15 := P.oc.free 1
      have y05 := P.y0
      have y15 := P.y1
      have y25 := P.y2
      go_wp2_with fail
      go_cut [] (fun wx => PV wx w.heap.size w.heap.size g a b d [p0, 0] [0, n1] [0, 0] bA oA n0 n1 n2 ∧ Below w.heap.size w wx)
      case first =>
        have PB := P.setB 1 n1 (by omega) (by omega)
        have KB := Lib.hid (show _ ∧ _ from ⟨PB.cg.cell 1 rfl, PB.y1⟩)
        go_region_held3 (fun w' => w'.cell? ⟨g, 1, none⟩ = some (.slice (some ⟨b, 0, none⟩) 2 2) ∧ w'.cell? ⟨bA, oA + 1, none⟩ = some (.int .i64 n1)) (first | exact ⟨g15, y15⟩ | exact KB.out) (fail)
        go_wp2_with fail
        go_meet
        case rel => exact ⟨PB.drew, (hbel.setCell (p := ⟨b, 1, none⟩) L.2.2.2.1 _).drew⟩
      case rest =>
        obtain ⟨P, hbel⟩ := hcut
        clear g05 g15 g25 a05 a15 b05 b15 c05 c15 fa05 fa15 fb05 fb15 fc05 fc15 y05 y15 y25
        obtain ⟨Wb, hWb⟩ : ∃ W, W = wc := ⟨_, rfl⟩
        subst hWb
        have g0b := P.cg.cell 0 rfl
        have g1b := P.cg.cell 1 rfl
        have g2b := P.cg.cell 2 rfl
        have a0b := P.oa.cell (j := 0) rfl
        have a1b := P.oa.cell (j := 1) rfl
        have b0b := P.ob.cell (j := 0) rfl
        have b1b := P.ob.cell (j := 1) rfl
        have c0b := P.oc.cell (j := 0) rfl
        have c1b := P.oc.cell (j := 1) rfl
        have fa0b := P.oa.free 0
        have fa1b := P.oa.free 1
        have fb0b := P.ob.free 0
        have fb1b := P.ob.free 1
        have fc0b := P.oc.free 0
        have fc1b := P.oc.free 1
        have y0b := P.y0
        have y1b := P.y1
        have y2b := P.y2
        go_wp2_with fail
        go_cut [] (fun wx => PV wx w.heap.size w.heap.size g a b d [p0, 0] [0, n1] [0, n2] bA oA n0 n1 n2 ∧ Below w.heap.size w wx)
        case first =>
          have PB := P.setC 1 n2 (by omega) (by omega)
          have KB := Lib.hid (show _ ∧ _ from ⟨PB.cg.cell 2 rfl, PB.y2⟩)
          go_region_held3 (fun w' => w'.cell? ⟨g, 2, none⟩ = some (.slice (some ⟨d, 0, none⟩) 2 2) ∧ w'.cell? ⟨bA, oA + 2, none⟩ = some (.int .i64 n2)) (first | exact ⟨g2b, y2b⟩ | exact KB.out) (fail)
          go_wp2_with fail
          go_meet
          case rel => exact ⟨PB.drew, (hbel.setCell (p := ⟨d, 1, none⟩) L.2.2.2.2 _).drew⟩
        case rest =>
          obtain ⟨P, hbel⟩ := hcut
          clear g0b g1b g2b a0b a1b b0b b1b c0b c1b fa0b fa1b fb0b fb1b fc0b fc1b y0b y1b y2b
          obtain ⟨W6, hW6⟩ : ∃ W, W = wc := ⟨_, rfl⟩
          subst hW6
          have g06 := P.cg.cell 0 rfl
          have g16 := P.cg.cell 1 rfl
          have g26 := P.cg.cell 2 rfl
          have a06 := P.oa.cell (j := 0) rfl
          have a16 := P.oa.cell (j := 1) rfl
          have b06 := P.ob.cell (j := 0) rfl
          have b16 := P.ob.cell (j := 1) rfl
          have c06 := P.oc.cell (j := 0) rfl
          have c16 := P.oc.cell (j := 1) rfl
          have fa06 := P.oa.free 0
          have fa16 := P.oa.free 1
          have fb06 := P.ob.free 0
          have fb16 := P.ob.free 1
          have fc06 := P.oc.free 0
          have fc16 := P.oc.free 1
          have y06 := P.y0
          have y16 := P.y1
          have y26 := P.y2
          have X2 : IntKind.i64.wrap (500000003 - n1) = 500000003 - n1 := IntWalk.i64_in _ (by omega)
          have X3 : (500000003 - n1).tmod 500000003 = e1 := by rw [Int.tmod_eq_emod_of_nonneg (by omega)]; exact HE1.out
          go_wp2_with fail
          go_cut [10] (fun t wx => t = .int .i64 v4 ∧ PV wx w.heap.size w.heap.size g a b d [p0, 0] [0, n1] [0, n2] bA oA n0 n1 n2 ∧ Below w.heap.size w wx)
          case first =>
            go_region_held3 (fun w' => w'.cell? ⟨bA, oA + 1, none⟩ = some (.int .i64 n1)) (exact y16) (first | (go_at_call 96; refine (l09Power_to HV4.out _ (by omega) (by omega) (by omega) (by omega)).mono ?_; rintro e w' ⟨rfl, rfl⟩) | (go_at_call 97; refine (l09Without_to HV2.out _ (by omega) (by omega)).mono ?_; rintro e w' ⟨rfl, rfl⟩))
            all_goals
              go_wp2_with fail
              go_meet
            all_goals
              case rel => exact ⟨rfl, P.drew, hbel.drew⟩
          case rest =>
            obtain ⟨rfl, P, hbel⟩ := hcut
            clear g06 g16 g26 a06 a16 b06 b16 c06 c16 fa06 fa16 fb06 fb16 fc06 fc16 y06 y16 y26 X2 X3
            obtain ⟨Wc, hWc⟩ : ∃ W, W = wc := ⟨_, rfl⟩
            subst hWc
            have g0c := P.cg.cell 0 rfl
            have g1c := P.cg.cell 1 rfl
            have g2c := P.cg.cell 2 rfl
            have a0c := P.oa.cell (j := 0) rfl
            have a1c := P.oa.cell (j := 1) rfl
            have b0c := P.ob.cell (j := 0) rfl
            have b1c := P.ob.cell (j := 1) rfl
            have c0c := P.oc.cell (j := 0) rfl
            have c1c := P.oc.cell (j := 1) rfl
            have fa0c := P.oa.free 0
            have fa1c := P.oa.free 1
            have fb0c := P.ob.free 0
            have fb1c := P.ob.free 1
            have fc0c := P.oc.free 0
            have fc1c := P.oc.free 1
            have y0c := P.y0
            have y1c := P.y1
            have y2c := P.y2
            go_wp2_with fail
            go_cut [] (fun wx => PV wx w.heap.size w.heap.size g a b d [p0, om] [0, n1] [0, n2] bA oA n0 n1 n2 ∧ Below w.heap.size w wx)
            case first =>
              have PA := P.setA 1 om (by omega) (by omega)
              have K := Lib.hid (show _ ∧ _ from ⟨PA.cg.cell 0 rfl, PA.y2⟩)
              go_region_held3 (fun w' => w'.cell? ⟨g, 0, none⟩ = some (.slice (some ⟨a, 0, none⟩) 2 2) ∧ w'.cell? ⟨bA, oA + 2, none⟩ = some (.int .i64 n2)) (first | exact ⟨g0c, y2c⟩ | exact K.out) (first | (go_at_call 96; refine (l09Power_to HV1.out _ (by omega) (by omega) (by omega) (by omega)).mono ?_; rintro e w' ⟨rfl, rfl⟩) | (go_at_call 95; refine (l09Times_to HOM.out _ (by omega) (by omega) (by omega) (by omega)).mono ?_; rintro e w' ⟨rfl, rfl⟩))
              all_goals
                go_wp2_with fail
                go_meet
              all_goals
                case rel => exact ⟨PA.drew, (hbel.setCell (p := ⟨a, 1, none⟩) L.2.2.1 _).drew⟩
            case rest =>
              obtain ⟨P, hbel⟩ := hcut
              clear g0c g1c g2c a0c a1c b0c b1c c0c c1c fa0c fa1c fb0c fb1c fc0c fc1c y0c y1c y2c
              obtain ⟨W7, hW7⟩ : ∃ W, W = wc := ⟨_, rfl⟩
              subst hW7
              have g07 := P.cg.cell 0 rfl
              have g17 := P.cg.cell 1 rfl
              have g27 := P.cg.cell 2 rfl
              have a07 := P.oa.cell (j := 0) rfl
              have a17 := P.oa.cell (j := 1) rfl
              have b07 := P.ob.cell (j := 0) rfl
              have b17 := P.ob.cell (j := 1) rfl
              have c07 := P.oc.cell (j := 0) rfl
              have c17 := P.oc.cell (j := 1) rfl
              have fa07 := P.oa.free 0
              have fa17 := P.oa.free 1
              have fb07 := P.ob.free 0
              have fb17 := P.ob.free 1
              have fc07 := P.oc.free 0
              have fc17 := P.oc.free 1
              have y07 := P.y0
              have y17 := P.y1
              have y27 := P.y2
              go_wp2_with fail
              go_cut [11] (fun t wx => t = .int .i64 sm ∧ PV wx w.heap.size w.heap.size g a b d [p0, om] [0, n1] [0, n2] bA oA n0 n1 n2 ∧ Below w.heap.size w wx)
              case first =>
                have b8 := bel_alloc W7 (.cells [.int .i64 s, .int .i64 p0, .int .i64 om].toArray 2)
                have P8 := P.below b8
                have K := Lib.hid (show _ ∧ _ ∧ _ from ⟨P8.cg.cell 0 rfl, P8.oa.cell (j := 0) rfl, P8.oa.cell (j := 1) rfl⟩)
                have N1 := Lib.hid ((Cs.new W7.drew [.int .i64 s, .int .i64 p0, .int .i64 om] 2).ints (n := 3) [s, p0, om] rfl rfl (by decide) (by intro z hz; simp at hz; rcases hz with rfl | rfl | rfl <;> omega))
                have B8 := Lib.hid (bel_trans hbel b8)
                clear b8
                go_region_held3 (fun w' => w'.cell? ⟨g, 0, none⟩ = some (.slice (some ⟨a, 0, none⟩) 2 2) ∧ w'.cell? ⟨a, 0, none⟩ = some (.int .i64 p0) ∧ w'.cell? ⟨a, 1, none⟩ = some (.int .i64 om)) (first | exact ⟨g07, a07, a17⟩ | exact K.out) (first | (go_at_call 94; refine (l09Challenge_any _ _ _ [s, p0, om] _ N1.out MODS).mono ?_; rintro e w4 ⟨rfl, rfl⟩; rw [HSM.out]))
                go_wp2_with fail
                go_meet
                case rel => exact ⟨rfl, P8.drew, B8.out.drew⟩
              case rest =>
                obtain ⟨rfl, P, hbel⟩ := hcut
                clear g07 g17 g27 a07 a17 b07 b17 c07 c17 fa07 fa17 fb07 fb17 fc07 fc17 y07 y17 y27
                obtain ⟨W8, hW8⟩ : ∃ W, W = wc := ⟨_, rfl⟩
                subst hW8
                have g08 := P.cg.cell 0 rfl
                have g18 := P.cg.cell 1 rfl
                have g28 := P.cg.cell 2 rfl
                have a08 := P.oa.cell (j := 0) rfl
                have a18 := P.oa.cell (j := 1) rfl
                have b08 := P.ob.cell (j := 0) rfl
                have b18 := P.ob.cell (j := 1) rfl
                have c08 := P.oc.cell (j := 0) rfl
                have c18 := P.oc.cell (j := 1) rfl
                have fa08 := P.oa.free 0
                have fa18 := P.oa.free 1
                have fb08 := P.ob.free 0
                have fb18 := P.ob.free 1
                have fc08 := P.oc.free 0
                have fc18 := P.oc.free 1
                have y08 := P.y0
                have y18 := P.y1
                have y28 := P.y2
                have X2 : IntKind.i64.wrap (sm - n1) = sm - n1 := IntWalk.i64_in _ (by omega)
                have X4 : IntKind.i64.wrap (sm - n1 + 500000003) = sm - n1 + 500000003 := IntWalk.i64_in _ (by omega)
                have X3 : (sm - n1 + 500000003).tmod 500000003 = cc := by rw [Int.tmod_eq_emod_of_nonneg (by omega)]; exact HCC.out
                go_wp2_with fail
                go_cut [] (fun wx => PV wx w.heap.size w.heap.size g a b d [p0, om] [cc, n1] [0, n2] bA oA n0 n1 n2 ∧ Below w.heap.size w wx)
                case first =>
                  have PB := P.setB 0 cc (by omega) (by omega)
                  have K := Lib.hid (show _ ∧ _ from ⟨PB.cg.cell 1 rfl, PB.y1⟩)
                  go_region_held3 (fun w' => w'.cell? ⟨g, 1, none⟩ = some (.slice (some ⟨b, 0, none⟩) 2 2) ∧ w'.cell? ⟨bA, oA + 1, none⟩ = some (.int .i64 n1)) (first | exact ⟨g18, y18⟩ | exact K.out) (fail)
                  go_wp2_with fail
                  go_meet
                  case rel => exact ⟨PB.drew, (hbel.setCell (p := ⟨b, 0, none⟩) L.2.2.2.1 _).drew⟩
                case rest =>
                  obtain ⟨P, hbel⟩ := hcut
                  clear g08 g18 g28 a08 a18 b08 b18 c08 c18 fa08 fa18 fb08 fb18 fc08 fc18 y08 y18 y28 X2 X3 X4
                  obtain ⟨W9, hW9⟩ : ∃ W, W = wc := ⟨_, rfl⟩
                  subst hW9
                  have g09 := P.cg.cell 0 rfl
                  have g19 := P.cg.cell 1 rfl
                  have g29 := P.cg.cell 2 rfl
                  have a09 := P.oa.cell (j := 0) rfl
                  have a19 := P.oa.cell (j := 1) rfl
                  have b09 := P.ob.cell (j := 0) rfl
                  have b19 := P.ob.cell (j := 1) rfl
                  have c09 := P.oc.cell (j := 0) rfl
                  have c19 := P.oc.cell (j := 1) rfl
                  have fa09 := P.oa.free 0
                  have fa19 := P.oa.free 1
                  have fb09 := P.ob.free 0
                  have fb19 := P.ob.free 1
                  have fc09 := P.oc.free 0
                  have fc19 := P.oc.free 1
                  have y09 := P.y0
                  have y19 := P.y1
                  have y29 := P.y2
                  have X0 : 0 ≤ cc * key := Int.mul_nonneg bcc.1 bk.1
                  have X1 : cc * key ≤ 500000003 * 500000003 := Int.mul_le_mul (by omega) (by omega) bk.1 (by omega)
                  have X2 : IntKind.i64.wrap (cc * key) = cc * key := IntWalk.i64_in _ (by omega)
                  have X4 : IntKind.i64.wrap (n0 + cc * key) = n0 + cc * key := IntWalk.i64_in _ (by omega)
                  have X3 : (n0 + cc * key).tmod 500000003 = aa := by rw [Int.tmod_eq_emod_of_nonneg (by omega)]; exact HAA.out
                  clear X0 X1
                  go_wp2_with fail
                  go_cut [] (fun wx => PV wx w.heap.size w.heap.size g a b d [p0, om] [cc, n1] [aa, n2] bA oA n0 n1 n2 ∧ Below w.heap.size w wx)
                  case first =>
                    have PC := P.setC 0 aa (by omega) (by omega)
                    have K := Lib.hid (show _ ∧ _ ∧ _ ∧ _ from ⟨PC.cg.cell 2 rfl, PC.cg.cell 1 rfl, PC.y0, PC.ob.cell (j := 0) rfl⟩)
                    go_region_held3 (fun w' => w'.cell? ⟨g, 2, none⟩ = some (.slice (some ⟨d, 0, none⟩) 2 2) ∧ w'.cell? ⟨g, 1, none⟩ = some (.slice (some ⟨b, 0, none⟩) 2 2) ∧ w'.cell? ⟨bA, oA, none⟩ = some (.int .i64 n0) ∧ w'.cell? ⟨b, 0, none⟩ = some (.int .i64 cc)) (first | exact ⟨g29, g19, y09, b09⟩ | exact K.out) (fail)
                    go_wp2_with fail
                    go_meet
                    case rel => exact ⟨PC.drew, (hbel.setCell (p := ⟨d, 0, none⟩) L.2.2.2.2 _).drew⟩
                  case rest =>
                    obtain ⟨P, hbel⟩ := hcut
                    clear g09 g19 g29 a09 a19 b09 b19 c09 c19 fa09 fa19 fb09 fb19 fc09 fc19 y09 y19 y29 X2 X3 X4
                    obtain ⟨WA, hWA⟩ : ∃ W, W = wc := ⟨_, rfl⟩
                    subst hWA
                    have g0a := P.cg.cell 0 rfl
                    have g1a := P.cg.cell 1 rfl
                    have g2a := P.cg.cell 2 rfl
                    have a0a := P.oa.cell (j := 0) rfl
                    have a1a := P.oa.cell (j := 1) rfl
                    have b0a := P.ob.cell (j := 0) rfl
                    have b1a := P.ob.cell (j := 1) rfl
                    have c0a := P.oc.cell (j := 0) rfl
                    have c1a := P.oc.cell (j := 1) rfl
                    have fa0a := P.oa.free 0
                    have fa1a := P.oa.free 1
                    have fb0a := P.ob.free 0
                    have fb1a := P.ob.free 1
                    have fc0a := P.oc.free 0
                    have fc1a := P.oc.free 1
                    have y0a := P.y0
                    have y1a := P.y1
                    have y2a := P.y2
                    have r0 := P.cr.cell 0 rfl
                    have r1 := P.cr.cell 1 rfl
                    have r2 := P.cr.cell 2 rfl
                    have fr0 := P.cr.free 0 rfl
                    have fr1 := P.cr.free 1 rfl
                    have fr2 := P.cr.free 2 rfl
                    go_wp2_with fail
                    obtain ⟨R, O1, O2, O3⟩ := P.put (.slice (some ⟨a, 0, none⟩) 2 2) (.slice (some ⟨b, 0, none⟩) 2 2) (.slice (some ⟨d, 0, none⟩) 2 2)
                    obtain ⟨wz, hwz⟩ : ∃ z, putR WA w.heap.size (.slice (some ⟨a, 0, none⟩) 2 2) (.slice (some ⟨b, 0, none⟩) 2 2) (.slice (some ⟨d, 0, none⟩) 2 2) = z := ⟨_, rfl⟩
                    rw [hwz] at R
                    have k0 := R.cell 0 rfl
                    have k1 := R.cell 1 rfl
                    have k2 := R.cell 2 rfl
                    have G := P.gives1 (bt := 0) (key := key) (zs := [n0, n1, n2]) hbel hwz.symm XM.out XC.out XA.out
                    change bodyPost _ _ _ _ _ (putR WA w.heap.size (.slice (some ⟨a, 0, none⟩) 2 2) (.slice (some ⟨b, 0, none⟩) 2 2) (.slice (some ⟨d, 0, none⟩) 2 2))
                    rw [hwz]
                    exact bodyPost_ret (v := .agg #[.slice (some ⟨a, 0, none⟩) 2 2, .slice (some ⟨b, 0, none⟩) 2 2, .slice (some ⟨d, 0, none⟩) 2 2]) (by simp [results, Try.results68, go_sem, k0, k1, k2]) rfl G
end Go.Proofs.Ytnjnngnagdhaiaa
