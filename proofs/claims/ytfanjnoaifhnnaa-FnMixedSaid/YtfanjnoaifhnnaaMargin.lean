/- The margin: contracts of the program's MarginOf and of the model's. -/
import Derived.Test.YtfanjnoaifhnnaaMargLaw
import Derived.Test.YtfanjnoaifhnnaaSorted
import Derived.Test.YtfanjnoaifhnnaaApp
import Derived.Deep.DeepCutAuto
namespace Go.Proofs.Ytfanjnoaifhnnaa
set_option linter.unusedVariables false
open Go.RowKit
def margB (vs ws : List Int) : Bool := votesB vs ws && decide (0 < marg vs ws)
def margV (vs ws : List Int) : Int := if margB vs ws then marg vs ws else 0
theorem marg_no {vs ws : List Int} (h : votesB vs ws = false) : margV vs ws = 0 ∧ margB vs ws = false := by simp [margV, margB, h]
theorem marg_yes {vs ws : List Int} {r : Int} (h : votesB vs ws = true) (hr : marg vs ws = r) (h0 : 0 < r) : margV vs ws = r ∧ margB vs ws = true := by simp [margV, margB, h, hr, h0]
theorem marg_none {vs ws : List Int} (h : votesB vs ws = true) (hr : marg vs ws = -1) : margV vs ws = 0 ∧ margB vs ws = false := by simp [margV, margB, h, hr]
theorem gainL_bd {ag : Int} {p : Int × Int} (h : 0 ≤ p.2 ∧ p.2 ≤ 1000) : (gainL ag p).length ≤ 1 ∧ ∀ z ∈ gainL ag p, 0 ≤ z ∧ z ≤ 2000 := by
  unfold gainL
  split
  · exact ⟨by simp, by intro z hz; simp at hz; omega⟩
  · split
    · exact ⟨by simp, by intro z hz; simp at hz; omega⟩
    · exact ⟨by simp, by simp⟩
def gainT (ag : Int) (l : List (Int × Int)) (k : Nat) : List Int := foldT (fun o p => o ++ gainL ag p) [] l k
theorem gainT_ok {ag : Int} {vs ws : List Int} (hw : ∀ z ∈ ws, weightB z = true) (k : Nat) : (gainT ag (vs.zip ws) k).length ≤ k ∧ ∀ z ∈ gainT ag (vs.zip ws) k, 0 ≤ z ∧ z ≤ 2000 := by
  induction k with
  | zero => exact ⟨by simp [gainT, foldT], by simp [gainT, foldT]⟩
  | succ k ih =>
    cases h : (vs.zip ws)[k]? with
    | none =>
      have hk : (vs.zip ws).length ≤ k := List.getElem?_eq_none_iff.1 h
      unfold gainT at *
      rw [foldT_end (by omega), ← foldT_end hk]
      exact ⟨by omega, ih.2⟩
    | some p =>
      have hp := weightB_true (hw p.2 (List.of_mem_zip (a := p.1) (b := p.2) (List.mem_of_getElem? h)).2)
      obtain ⟨l1, l2⟩ := gainL_bd (ag := ag) hp
      unfold gainT at *
      rw [foldT_succ h]
      refine ⟨by rw [List.length_append]; omega, fun z hz => ?_⟩
      rcases List.mem_append.1 hz with hz | hz
      · exact ih.2 z hz
      · exact l2 z hz
theorem gainT_end {ag : Int} {vs ws : List Int} {n : Nat} (h : vs.length = n) : gainT ag (vs.zip ws) n = gains ag vs ws := by
  unfold gainT gains
  rw [foldT_end (by rw [List.length_zip]; omega)]
theorem gainT_succ {ag : Int} {vs ws : List Int} {k : Nat} {z y : Int} (h : vs[k]? = some z) (h' : ws[k]? = some y) : gainT ag (vs.zip ws) (k + 1) = gainT ag (vs.zip ws) k ++ gainL ag (z, y) := by
  unfold gainT
  rw [foldT_succ (zip_at h h')]
theorem desc_bd {L : List Int} {lo hi : Int} (h : ∀ z ∈ L, lo ≤ z ∧ z ≤ hi) : ∀ z ∈ desc L, lo ≤ z ∧ z ≤ hi := fun z hz => h z ((desc_perm L).mem_iff.1 hz)
theorem desc_length (L : List Int) : (desc L).length = L.length := (desc_perm L).length_eq
theorem drop_at {L : List Int} {j : Nat} {x : Int} (h : L[j]? = some x) : L.drop j = x :: L.drop (j + 1) := by
  have hj := (List.getElem?_eq_some_iff.1 h).1
  rw [List.drop_eq_getElem_cons hj]
  congr 1
  rw [List.getElem?_eq_getElem hj] at h
  simpa using h
/-- The rest of the cut. -/
structure CutAt (D : List Int) (N : Int) (j : Nat) (r : Int) : Prop where
  pos : 0 < N
  hi : N ≤ 40000
  eq : cutF N j (D.drop j) = r
theorem CutAt.stop {D : List Int} {N : Int} {j : Nat} {r x : Int} (h : CutAt D N j r) (hx : D[j]? = some x) (hs : N - x ≤ 0) : r = (j : Int) + 1 := by
  have := h.eq
  rw [drop_at hx] at this
  unfold cutF at this
  rw [if_pos hs] at this
  exact this.symm
theorem CutAt.next {D : List Int} {N : Int} {j : Nat} {r x : Int} (h : CutAt D N j r) (hx : D[j]? = some x) (h0 : 0 ≤ x) (hs : ¬ N - x ≤ 0) : CutAt D (N - x) (j + 1) r := by
  have e := h.eq
  rw [drop_at hx] at e
  unfold cutF at e
  rw [if_neg hs] at e
  have := h.hi
  exact ⟨by omega, by omega, e⟩
theorem CutAt.done {D : List Int} {N : Int} {j : Nat} {r : Int} (h : CutAt D N j r) (hj : D.length ≤ j) : r = -1 := by
  have e := h.eq
  rw [List.drop_of_length_le hj] at e
  exact e.symm
set_option maxRecDepth 100000 in
set_option maxHeartbeats 2000000 in
theorem implMarginOf_any (A : Option Addr) (n c : Nat) (vs : List Int) (B : Option Addr) (m d : Nat) (ws : List Int) (w : World) (h : Ints .i64 w A n c vs) (k : Ints .i64 w B m d ws) :
    Calls Try.prog 12 #[.slice A n c, .slice B m d] w fun e w' => e = .returned (.tuple #[.int .i64 (margV vs ws), .bool (margB vs ws)]) ∧ Below w.heap.size w w' := by
  have hl := Lib.hid h.1
  have kl := Lib.hid k.1
  cases hv : votesB vs ws
  · have HV := Lib.hid hv
    have R := Lib.hid (marg_no hv)
    clear hv
    go_enter Try.func12, Try.ntmps12
    go_wp2_with fail
    refine (areVotes_any A n c vs B m d ws _ h k).mono ?_
    rintro e w1 ⟨rfl, hb⟩
    rw [HV.out]
    go_wp2_with fail
    go_ret2
    exact ⟨ret_ib R.out.1.symm R.out.2.symm, hb⟩
  · have HV := Lib.hid hv
    obtain ⟨g1, g2, g3, g4⟩ := votesB_true hl.out hv
    obtain rfl : m = n := kl.out.symm.trans g3
    have G2 := Lib.hid g2
    have G4 := Lib.hid g4
    have CO := cnt_ok g2 g4 (vs.zip ws).length
    rw [foldT_end (Nat.le_refl _)] at CO
    obtain ⟨x0, hx0⟩ : ∃ x, (count vs ws)[0]? = some x := ⟨_, List.getElem?_eq_getElem (by have := CO.1; unfold count; omega)⟩
    obtain ⟨x1, hx1⟩ : ∃ x, (count vs ws)[1]? = some x := ⟨_, List.getElem?_eq_getElem (by have := CO.1; unfold count; omega)⟩
    have zl : (vs.zip ws).length ≤ 30 := by rw [List.length_zip]; omega
    have bx0 := CO.2 x0 (mem_of_at hx0)
    have bx1 := CO.2 x1 (mem_of_at hx1)
    have c0 : 0 ≤ x0 ∧ x0 ≤ 30000 := by omega
    have c1 : 0 ≤ x1 ∧ x1 ≤ 30000 := by omega
    have D0 : (count vs ws).getD 0 0 = x0 := by rw [List.getD_eq_getElem?_getD, hx0]; rfl
    have D1 : (count vs ws).getD 1 0 = x1 := by rw [List.getD_eq_getElem?_getD, hx1]; rfl
    have HX0 := Lib.hid hx0
    have HX1 := Lib.hid hx1
    have E0 := Lib.hid D0
    have E1 := Lib.hid D1
    clear hv g2 g3 g4 CO hx0 hx1 D0 D1 bx0 bx1 zl
    by_cases hd : x0 - x1 + 1 ≤ 0
    · have MG : Hid (marg vs ws = cutF (x1 - x0) 0 (desc (gains 1 vs ws))) := by
        show _ = _
        unfold marg mNeed mAg mDiff
        rw [E0.out, E1.out, if_pos hd, if_pos hd]
        congr 1
        omega
      go_enter Try.func12, Try.ntmps12
      go_wp2_with fail
      refine (areVotes_any A m c vs B m d ws _ h k).mono ?_
      rintro e w1 ⟨rfl, hb⟩
      rw [HV.out]
      go_wp2_with fail
      refine (counted_any A m c vs B d ws _ (h.below hb) (k.below hb) G2 G4 g1).mono ?_
      rintro e w2 ⟨g, rfl, ho, hb2⟩
      have q0 := ho.cell HX0.out
      have q1 := ho.cell HX1.out
      have bb2 := bel_trans hb hb2
      have s2 := bb2.size
      clear ho
      go_wp2_with fail
      go_quiet (fail)
      go_wp2_with fail
      go_quiet (fail)
      go_wp2_with fail
      go_loopw [9, 41] (fun t i wr => ∃ (j : Nat) (A' : Option Addr) (c' : Nat), j ≤ m ∧ i = .int .i64 j ∧ t = .slice A' (gainT 1 (vs.zip ws) j).length c' ∧ OwnI wr w2.heap.size A' (gainT 1 (vs.zip ws) j).length c' (gainT 1 (vs.zip ws) j) ∧ Below w2.heap.size w2 wr) (fun _ i _ => m - (intOf i).toNat)
      case atStart => exact ⟨0, _, _, Nat.zero_le _, rfl, rfl, ownI_lit (w2.drewN _), (below_drewN (Below.refl _ w2) _).alloc (Nat.le_refl _) _⟩
      case round =>
        obtain ⟨j, A', c', hj, rfl, rfl, hown, hbel⟩ := hrel
        have bbr := bb2.trans (hbel.mono s2)
        have GO := gainT_ok (ag := 1) (vs := vs) G4.out j
        have gl := GO.1
        have HO := Lib.hid hown
        have hsz := hbel.size
        by_cases hlt : j < m
        · obtain ⟨b, off, z, rfl, hbz, hcell, hz1, hz2, hz⟩ := (h.below bbr).at hlt
          obtain ⟨b', off', y, rfl, hby, hcell', hy1, hy2, hy⟩ := (k.below bbr).at hlt
          have bz := voteB_true (G2.out z (mem_of_at hz.out))
          have by_ := weightB_true (G4.out y (mem_of_at hy.out))
          have GS := Lib.hid (gainT_succ (ag := 1) hz.out hy.out)
          clear hown GO
          by_cases e1 : z = 1
          · have GL : Hid (gainL 1 (z, y) = [2 * y]) := by show _ = _; unfold gainL; rw [if_pos e1]
            subst e1
            go_wp2_with (at_builtin; refine app_int _ rfl _ _ rfl w2.heap.size A' _ c' _ rfl HO.out (2 * y) (by omega) (by omega) rfl (by omega) hsz ?_; intro A2 c2 w5 p1 p2; have hb5 := bel_app hbel HO.out.1 p2 hsz; have P1 := Lib.hid p1; clear p1)
            have P2 := P1.out
            have L1 : (gainT 1 (vs.zip ws) j).length + 1 = (gainT 1 (vs.zip ws) (j + 1)).length := by rw [GS.out, GL.out, List.length_append]; rfl
            rw [← GL.out, ← GS.out, L1] at P2
            rw [L1]
            clear L1
            go_roundw
            case rel => exact ⟨j + 1, A2, c2, by omega, by go_num, rfl, P2, hb5⟩
            case measure => simp [intOf]; omega
          · have e1' : (z == 1) = false := by simpa using e1
            by_cases e2 : z = 2
            · have GL : Hid (gainL 1 (z, y) = [y]) := by show _ = _; unfold gainL; rw [if_neg e1, if_pos e2]
              subst e2
              go_wp2_with (at_builtin; refine app_int _ rfl _ _ rfl w2.heap.size A' _ c' _ rfl HO.out y (by omega) (by omega) rfl (by omega) hsz ?_; intro A2 c2 w5 p1 p2; have hb5 := bel_app hbel HO.out.1 p2 hsz; have P1 := Lib.hid p1; clear p1)
              have P2 := P1.out
              have L1 : (gainT 1 (vs.zip ws) j).length + 1 = (gainT 1 (vs.zip ws) (j + 1)).length := by rw [GS.out, GL.out, List.length_append]; rfl
              rw [← GL.out, ← GS.out, L1] at P2
              rw [L1]
              clear L1
              go_roundw
              case rel => exact ⟨j + 1, A2, c2, by omega, by go_num, rfl, P2, hb5⟩
              case measure => simp [intOf]; omega
            · have e2' : (z == 2) = false := by simpa using e2
              have GL : Hid (gainL 1 (z, y) = []) := by show _ = _; unfold gainL; rw [if_neg e1, if_neg e2]
              have GE : gainT 1 (vs.zip ws) (j + 1) = gainT 1 (vs.zip ws) j := by rw [GS.out, GL.out, List.append_nil]
              have GH := Lib.hid GE
              clear GE
              go_wp2_with fail
              go_roundw
              case rel => exact ⟨j + 1, A', c', by omega, by go_num, by rw [GH.out], by rw [GH.out]; exact HO.out, hbel⟩
              case measure => simp [intOf]; omega
        · obtain rfl : j = m := by omega
          have gE := gainT_end (ag := 1) (vs := vs) (ws := ws) hl.out
          have GB := GO.2
          obtain ⟨G, hG⟩ : ∃ G, gainT 1 (vs.zip ws) j = G := ⟨_, rfl⟩
          rw [hG] at gE gl GB HO ⊢
          have DB := Lib.hid (desc_bd GB)
          have DL := Lib.hid (desc_length G)
          have MD : Hid (marg vs ws = cutF (x1 - x0) 0 (desc G)) := by show _ = _; rw [MG.out, gE]
          clear hown GO GB gE hG MG
          go_wp2_with fail
          refine (sort64_any w2.heap.size A' _ c' G _ HO.out (by omega)).mono ?_
          rintro e w3 ⟨rfl, o3, g3⟩
          go_wp2_with fail
          refine (reverse64_any w2.heap.size A' _ c' _ _ o3 (by omega)).mono ?_
          rintro e w4 ⟨rfl, o4, g4⟩
          have g34 := grown_trans g3 g4
          have b4 : Below w2.heap.size w2 w4 := hbel.grown g34 hsz (fun x hx => (HO.out.block x hx).1)
          have bb4 := bb2.trans (b4.mono s2)
          have O4 := Lib.hid o4
          clear o3 o4 g3 g4 g34
          change Hid (OwnI w4 w2.heap.size A' G.length c' (desc G)) at O4
          obtain ⟨D, hD⟩ : ∃ D, desc G = D := ⟨_, rfl⟩
          rw [hD] at O4 DB DL MD
          obtain ⟨q, hq⟩ : ∃ q, G.length = q := ⟨_, rfl⟩
          rw [hq] at O4 DL gl ⊢
          clear hD hq
          have DI := O4.out.ints
          go_wp2_with fail
          go_loop [7, 74] (fun t i => ∃ (j : Nat) (N : Int), j ≤ q ∧ i = .int .i64 j ∧ t = .int .i64 N ∧ CutAt D N j (marg vs ws)) (fun _ i => q - (intOf i).toNat)
          case atStart => exact ⟨0, _, Nat.zero_le _, rfl, rfl, by omega, by omega, MD.out.symm⟩
          case round =>
            obtain ⟨i, N, hi, rfl, rfl, hcut⟩ := hrel
            have n0 := hcut.pos
            have n1 := hcut.hi
            have CA := Lib.hid hcut
            clear hcut
            by_cases hlt2 : i < q
            · obtain ⟨b, off, x, rfl, hbz, hcell, hz1, hz2, hx⟩ := DI.at hlt2
              have bx := DB.out x (mem_of_at hx.out)
              by_cases hs : N - x ≤ 0
              · have R := Lib.hid (marg_yes HV.out (CA.out.stop hx.out hs) (by omega))
                go_wp2_with fail
                go_ret2
                exact ⟨ret_ib R.out.1.symm R.out.2.symm, bb4⟩
              · have CN := Lib.hid (CA.out.next hx.out bx.1 hs)
                go_wp2_with fail
                go_round
                case rel => exact ⟨i + 1, _, by omega, by go_num, rfl, CN.out⟩
                case measure => simp [intOf]; omega
            · have R := Lib.hid (marg_none HV.out (CA.out.done (by rw [DL.out]; omega)))
              go_wp2_with fail
              go_ret2
              exact ⟨ret_ib R.out.1.symm R.out.2.symm, bb4⟩
    · have MG : Hid (marg vs ws = cutF (x0 - x1 + 1) 0 (desc (gains 0 vs ws))) := by
        show _ = _
        unfold marg mNeed mAg mDiff
        rw [E0.out, E1.out, if_neg hd, if_neg hd]
      go_enter Try.func12, Try.ntmps12
      go_wp2_with fail
      refine (areVotes_any A m c vs B m d ws _ h k).mono ?_
      rintro e w1 ⟨rfl, hb⟩
      rw [HV.out]
      go_wp2_with fail
      refine (counted_any A m c vs B d ws _ (h.below hb) (k.below hb) G2 G4 g1).mono ?_
      rintro e w2 ⟨g, rfl, ho, hb2⟩
      have q0 := ho.cell HX0.out
      have q1 := ho.cell HX1.out
      have bb2 := bel_trans hb hb2
      have s2 := bb2.size
      clear ho
      go_wp2_with fail
      go_quiet (fail)
      go_wp2_with fail
      skip
      go_wp2_with fail
      go_loopw [9, 41] (fun t i wr => ∃ (j : Nat) (A' : Option Addr) (c' : Nat), j ≤ m ∧ i = .int .i64 j ∧ t = .slice A' (gainT 0 (vs.zip ws) j).length c' ∧ OwnI wr w2.heap.size A' (gainT 0 (vs.zip ws) j).length c' (gainT 0 (vs.zip ws) j) ∧ Below w2.heap.size w2 wr) (fun _ i _ => m - (intOf i).toNat)
      case atStart => exact ⟨0, _, _, Nat.zero_le _, rfl, rfl, ownI_lit (w2.drewN _), (below_drewN (Below.refl _ w2) _).alloc (Nat.le_refl _) _⟩
      case round =>
        obtain ⟨j, A', c', hj, rfl, rfl, hown, hbel⟩ := hrel
        have bbr := bb2.trans (hbel.mono s2)
        have GO := gainT_ok (ag := 0) (vs := vs) G4.out j
        have gl := GO.1
        have HO := Lib.hid hown
        have hsz := hbel.size
        by_cases hlt : j < m
        · obtain ⟨b, off, z, rfl, hbz, hcell, hz1, hz2, hz⟩ := (h.below bbr).at hlt
          obtain ⟨b', off', y, rfl, hby, hcell', hy1, hy2, hy⟩ := (k.below bbr).at hlt
          have bz := voteB_true (G2.out z (mem_of_at hz.out))
          have by_ := weightB_true (G4.out y (mem_of_at hy.out))
          have GS := Lib.hid (gainT_succ (ag := 0) hz.out hy.out)
          clear hown GO
          by_cases e1 : z = 0
          · have GL : Hid (gainL 0 (z, y) = [2 * y]) := by show _ = _; unfold gainL; rw [if_pos e1]
            subst e1
            go_wp2_with (at_builtin; refine app_int _ rfl _ _ rfl w2.heap.size A' _ c' _ rfl HO.out (2 * y) (by omega) (by omega) rfl (by omega) hsz ?_; intro A2 c2 w5 p1 p2; have hb5 := bel_app hbel HO.out.1 p2 hsz; have P1 := Lib.hid p1; clear p1)
            have P2 := P1.out
            have L1 : (gainT 0 (vs.zip ws) j).length + 1 = (gainT 0 (vs.zip ws) (j + 1)).length := by rw [GS.out, GL.out, List.length_append]; rfl
            rw [← GL.out, ← GS.out, L1] at P2
            rw [L1]
            clear L1
            go_roundw
            case rel => exact ⟨j + 1, A2, c2, by omega, by go_num, rfl, P2, hb5⟩
            case measure => simp [intOf]; omega
          · have e1' : (z == 0) = false := by simpa using e1
            by_cases e2 : z = 2
            · have GL : Hid (gainL 0 (z, y) = [y]) := by show _ = _; unfold gainL; rw [if_neg e1, if_pos e2]
              subst e2
              go_wp2_with (at_builtin; refine app_int _ rfl _ _ rfl w2.heap.size A' _ c' _ rfl HO.out y (by omega) (by omega) rfl (by omega) hsz ?_; intro A2 c2 w5 p1 p2; have hb5 := bel_app hbel HO.out.1 p2 hsz; have P1 := Lib.hid p1; clear p1)
              have P2 := P1.out
              have L1 : (gainT 0 (vs.zip ws) j).length + 1 = (gainT 0 (vs.zip ws) (j + 1)).length := by rw [GS.out, GL.out, List.length_append]; rfl
              rw [← GL.out, ← GS.out, L1] at P2
              rw [L1]
              clear L1
              go_roundw
              case rel => exact ⟨j + 1, A2, c2, by omega, by go_num, rfl, P2, hb5⟩
              case measure => simp [intOf]; omega
            · have e2' : (z == 2) = false := by simpa using e2
              have GL : Hid (gainL 0 (z, y) = []) := by show _ = _; unfold gainL; rw [if_neg e1, if_neg e2]
              have GE : gainT 0 (vs.zip ws) (j + 1) = gainT 0 (vs.zip ws) j := by rw [GS.out, GL.out, List.append_nil]
              have GH := Lib.hid GE
              clear GE
              go_wp2_with fail
              go_roundw
              case rel => exact ⟨j + 1, A', c', by omega, by go_num, by rw [GH.out], by rw [GH.out]; exact HO.out, hbel⟩
              case measure => simp [intOf]; omega
        · obtain rfl : j = m := by omega
          have gE := gainT_end (ag := 0) (vs := vs) (ws := ws) hl.out
          have GB := GO.2
          obtain ⟨G, hG⟩ : ∃ G, gainT 0 (vs.zip ws) j = G := ⟨_, rfl⟩
          rw [hG] at gE gl GB HO ⊢
          have DB := Lib.hid (desc_bd GB)
          have DL := Lib.hid (desc_length G)
          have MD : Hid (marg vs ws = cutF (x0 - x1 + 1) 0 (desc G)) := by show _ = _; rw [MG.out, gE]
          clear hown GO GB gE hG MG
          go_wp2_with fail
          refine (sort64_any w2.heap.size A' _ c' G _ HO.out (by omega)).mono ?_
          rintro e w3 ⟨rfl, o3, g3⟩
          go_wp2_with fail
          refine (reverse64_any w2.heap.size A' _ c' _ _ o3 (by omega)).mono ?_
          rintro e w4 ⟨rfl, o4, g4⟩
          have g34 := grown_trans g3 g4
          have b4 : Below w2.heap.size w2 w4 := hbel.grown g34 hsz (fun x hx => (HO.out.block x hx).1)
          have bb4 := bb2.trans (b4.mono s2)
          have O4 := Lib.hid o4
          clear o3 o4 g3 g4 g34
          change Hid (OwnI w4 w2.heap.size A' G.length c' (desc G)) at O4
          obtain ⟨D, hD⟩ : ∃ D, desc G = D := ⟨_, rfl⟩
          rw [hD] at O4 DB DL MD
          obtain ⟨q, hq⟩ : ∃ q, G.length = q := ⟨_, rfl⟩
          rw [hq] at O4 DL gl ⊢
          clear hD hq
          have DI := O4.out.ints
          go_wp2_with fail
          go_loop [7, 74] (fun t i => ∃ (j : Nat) (N : Int), j ≤ q ∧ i = .int .i64 j ∧ t = .int .i64 N ∧ CutAt D N j (marg vs ws)) (fun _ i => q - (intOf i).toNat)
          case atStart => exact ⟨0, _, Nat.zero_le _, rfl, rfl, by omega, by omega, MD.out.symm⟩
          case round =>
            obtain ⟨i, N, hi, rfl, rfl, hcut⟩ := hrel
            have n0 := hcut.pos
            have n1 := hcut.hi
            have CA := Lib.hid hcut
            clear hcut
            by_cases hlt2 : i < q
            · obtain ⟨b, off, x, rfl, hbz, hcell, hz1, hz2, hx⟩ := DI.at hlt2
              have bx := DB.out x (mem_of_at hx.out)
              by_cases hs : N - x ≤ 0
              · have R := Lib.hid (marg_yes HV.out (CA.out.stop hx.out hs) (by omega))
                go_wp2_with fail
                go_ret2
                exact ⟨ret_ib R.out.1.symm R.out.2.symm, bb4⟩
              · have CN := Lib.hid (CA.out.next hx.out bx.1 hs)
                go_wp2_with fail
                go_round
                case rel => exact ⟨i + 1, _, by omega, by go_num, rfl, CN.out⟩
                case measure => simp [intOf]; omega
            · have R := Lib.hid (marg_none HV.out (CA.out.done (by rw [DL.out]; omega)))
              go_wp2_with fail
              go_ret2
              exact ⟨ret_ib R.out.1.symm R.out.2.symm, bb4⟩
theorem insAt_down {L : List Int} {x : Int} {n a : Nat} (h : insAt L x n = insAt L x (a + 1)) (hx : L.getD a 0 < x) : insAt L x n = insAt L x a := by
  rw [h]; conv => lhs; unfold insAt
  rw [if_pos hx]
theorem insAt_stop {L : List Int} {x : Int} {n a : Nat} (h : insAt L x n = insAt L x (a + 1)) (hx : ¬ L.getD a 0 < x) : insAt L x n = a + 1 := by
  rw [h]; conv => lhs; unfold insAt
  rw [if_neg hx]
def effT (ag : Int) (l : List (Int × Int)) (k : Nat) : List Int := foldT (fun o p => insD o (effX ag p)) [] l k
theorem insD_length (L : List Int) (x : Int) : (insD L x).length = L.length + 1 := by simpa using (insD_perm L x).length_eq
theorem effX_bd {ag : Int} {p : Int × Int} (h : 0 ≤ p.2 ∧ p.2 ≤ 1000) : 0 ≤ effX ag p ∧ effX ag p ≤ 2000 := by
  unfold effX; split
  · omega
  · split <;> omega
theorem effT_ok {ag : Int} {vs ws : List Int} {n : Nat} (hl : vs.length = n) (kl : ws.length = n) (hw : ∀ z ∈ ws, weightB z = true) : ∀ k, k ≤ n → (effT ag (vs.zip ws) k).length = k ∧ ∀ z ∈ effT ag (vs.zip ws) k, 0 ≤ z ∧ z ≤ 2000 := by
  intro k
  induction k with
  | zero => intro _; exact ⟨by simp [effT, foldT], by simp [effT, foldT]⟩
  | succ k ih =>
    intro hk
    obtain ⟨i1, i2⟩ := ih (by omega)
    obtain ⟨p, h⟩ : ∃ p, (vs.zip ws)[k]? = some p := ⟨_, List.getElem?_eq_getElem (by rw [List.length_zip]; omega)⟩
    have hp := effX_bd (ag := ag) (weightB_true (hw p.2 (List.of_mem_zip (a := p.1) (b := p.2) (List.mem_of_getElem? h)).2))
    unfold effT at *
    rw [foldT_succ h]
    refine ⟨by rw [insD_length, i1], fun z hz => ?_⟩
    rcases List.mem_cons.1 ((insD_perm _ _).mem_iff.1 hz) with rfl | hz
    · exact hp
    · exact i2 z hz
theorem effT_succ {ag : Int} {vs ws : List Int} {k : Nat} {z y : Int} (h : vs[k]? = some z) (h' : ws[k]? = some y) : effT ag (vs.zip ws) (k + 1) = insD (effT ag (vs.zip ws) k) (effX ag (z, y)) := by
  unfold effT
  rw [foldT_succ (zip_at h h')]
theorem effT_end {ag : Int} {vs ws : List Int} {n : Nat} (h : vs.length = n) : effT ag (vs.zip ws) n = effects ag vs ws := by
  unfold effT effects
  rw [foldT_end (by rw [List.length_zip]; omega)]
set_option maxRecDepth 100000 in
set_option maxHeartbeats 4000000 in
theorem l09Margin_any (A : Option Addr) (m c : Nat) (vs : List Int) (B : Option Addr) (d : Nat) (ws : List Int) (w : World) (h : Ints .i64 w A m c vs) (k : Ints .i64 w B m d ws) (hv : votesB vs ws = true) :
    Calls Try.prog 46 #[.slice A m c, .slice B m d] w fun e w' => e = .returned (.int .i64 (marg vs ws)) ∧ Below w.heap.size w w' := by
  have hl := Lib.hid h.1
  have kl := Lib.hid k.1
  obtain ⟨g1, g2, g3, g4⟩ := votesB_true hl.out hv
  have G2 := Lib.hid g2
  have G4 := Lib.hid g4
  have CO := cnt_ok g2 g4 (vs.zip ws).length
  rw [foldT_end (Nat.le_refl _)] at CO
  obtain ⟨x0, hx0⟩ : ∃ x, (count vs ws)[0]? = some x := ⟨_, List.getElem?_eq_getElem (by have := CO.1; unfold count; omega)⟩
  obtain ⟨x1, hx1⟩ : ∃ x, (count vs ws)[1]? = some x := ⟨_, List.getElem?_eq_getElem (by have := CO.1; unfold count; omega)⟩
  have zl : (vs.zip ws).length ≤ 30 := by rw [List.length_zip, hl.out]; omega
  have bx0 := CO.2 x0 (mem_of_at hx0)
  have bx1 := CO.2 x1 (mem_of_at hx1)
  have c0 : 0 ≤ x0 ∧ x0 ≤ 30000 := by omega
  have c1 : 0 ≤ x1 ∧ x1 ≤ 30000 := by omega
  have D0 : (count vs ws).getD 0 0 = x0 := by rw [List.getD_eq_getElem?_getD, hx0]; rfl
  have D1 : (count vs ws).getD 1 0 = x1 := by rw [List.getD_eq_getElem?_getD, hx1]; rfl
  have HX0 := Lib.hid hx0
  have HX1 := Lib.hid hx1
  have ME := Lib.hid (marg_effects (vs := vs) (ws := ws) (fun z hz => (weightB_true (g4 z hz)).1))
  have E0 := Lib.hid D0
  have E1 := Lib.hid D1
  clear hv g2 g3 g4 CO hx0 hx1 D0 D1 bx0 bx1 zl
  by_cases hd : x0 - x1 + 1 ≤ 0
  · have MG : Hid (marg vs ws = cutF (x1 - x0) 0 (effects 1 vs ws)) := by
      show _ = _
      rw [← ME.out]
      unfold mNeed mAg mDiff
      rw [E0.out, E1.out, if_pos hd, if_pos hd]
      congr 1
      omega
    go_enter Try.func46, Try.ntmps46
    go_wp2_with fail
    refine (l09Open_any A m c vs B d ws _ h k G2 G4 g1).mono ?_
    rintro e w2 ⟨g, rfl, ho, bb2⟩
    have q0 := ho.cell HX0.out
    have q1 := ho.cell HX1.out
    have s2 := bb2.size
    clear ho
    go_wp2_with fail
    go_quiet (fail)
    go_wp2_with fail
    go_quiet (fail)
    go_wp2_with fail
    go_loopw [8, 9] (fun t i wr => ∃ (j : Nat) (g' c' : Nat), j ≤ m ∧ i = .int .i64 j ∧ t = .slice (some ⟨g', 0, none⟩) j c' ∧ OwnI wr w2.heap.size (some ⟨g', 0, none⟩) j c' (effT 1 (vs.zip ws) j) ∧ Below w2.heap.size w2 wr) (fun _ i _ => m - (intOf i).toNat)
    case atStart => exact ⟨0, _, _, Nat.zero_le _, rfl, rfl, ownI_lit (w2.drewN _), (below_drewN (Below.refl _ w2) _).alloc (Nat.le_refl _) _⟩
    case round =>
      obtain ⟨j, g', c', hj, rfl, rfl, hown, hbel⟩ := hrel
      have bbr := bb2.trans (hbel.mono s2)
      obtain ⟨EL, EB⟩ := effT_ok (ag := 1) (vs := vs) hl.out kl.out G4.out j hj
      have HO := Lib.hid hown
      have HEL := Lib.hid EL
      have HEB := Lib.hid EB
      have hsz := hbel.size
      have hcj : j ≤ c' := hown.ints.2.1
      have hcm : c' ≤ 9223372036854775807 := by have := hown.ints.2.2.1; unfold maxLen at this; omega
      by_cases hlt : j < m
      · obtain ⟨b, off, z, rfl, hbz, hcell, hz1, hz2, hz⟩ := (h.below bbr).at hlt
        obtain ⟨b', off', y, rfl, hby, hcell', hy1, hy2, hy⟩ := (k.below bbr).at hlt
        have bz := voteB_true (G2.out z (mem_of_at hz.out))
        have by_ := weightB_true (G4.out y (mem_of_at hy.out))
        have ES := Lib.hid (effT_succ (ag := 1) hz.out hy.out)
        have bX := effX_bd (ag := 1) (p := (z, y)) by_
        obtain ⟨X, hX⟩ : ∃ X, effX 1 (z, y) = X := ⟨_, rfl⟩
        rw [hX] at bX
        have EX := Lib.hid hX
        clear hown EL EB hX
        go_upto_if 50 with (fail)
        go_cut [10] (fun t wx => t = .int .i64 X ∧ wx = wr)
        case first =>
          by_cases e1 : z = 1
          · have e3 : X = 2 * y := by rw [← EX.out]; unfold effX; rw [if_pos e1]
            subst e1
            go_wp2_with fail
            go_meet
            case rel => exact ⟨by rw [e3]; congr 1; omega, rfl⟩
          · have e1' : (z == 1) = false := by simpa using e1
            by_cases e2 : z = 2
            · have e3 : X = y := by rw [← EX.out]; unfold effX; rw [if_neg e1, if_pos e2]
              subst e2
              go_wp2_with fail
              go_meet
              case rel => exact ⟨by rw [e3], rfl⟩
            · have e2' : (z != 2) = true := by simpa using e2
              have e3 : X = 0 := by rw [← EX.out]; unfold effX; rw [if_neg e1, if_neg e2]
              go_wp2_with fail
              go_meet
              case rel => exact ⟨by rw [e3], rfl⟩
        case rest =>
          obtain ⟨rfl, rfl⟩ := hcut
          obtain ⟨wr, hwr⟩ : ∃ W, W = wc := ⟨_, rfl⟩
          subst hwr
          obtain ⟨E, hE⟩ : ∃ E, effT 1 (vs.zip ws) j = E := ⟨_, rfl⟩
          rw [hE] at HO HEL HEB ES
          have HE := Lib.hid hE
          clear hE
          go_wp2_with fail
          go_loop [11] (fun t => ∃ a : Nat, a ≤ j ∧ t = .int .i64 a ∧ insAt E X E.length = insAt E X a) (fun t => (intOf t).toNat)
          case atStart => exact ⟨j, Nat.le_refl _, rfl, by rw [HEL.out]⟩
          case round =>
            obtain ⟨a, ha, rfl, hins⟩ := hrel
            have HI := Lib.hid hins
            clear hins
            rcases Nat.eq_zero_or_pos a with h0 | h0
            · subst h0
              have HI0 : Hid (insAt E X E.length = 0) := by show _ = _; rw [HI.out]; rfl
              go_wp2_with fail
              have F1 := HO.out.ints.front (k := 0) (by omega)
              refine (l00Own_any _ (0) c' (E.take (0)) _ F1 (by omega)).mono ?_
              rintro e w5 ⟨A5, c5, rfl, o5, b5⟩
              have O5 := Lib.hid (o5.mono hsz)
              have HO5 := Lib.hid (HO.out.below b5)
              have hb5 : Below w2.heap.size w2 w5 := hbel.trans (b5.mono hsz)
              have hsz5 := hb5.size
              have OB := Lib.hid o5
              have GB := Lib.hid (fun x hx => (HO.out.block x hx).2)
              clear o5 F1
              have tok1 : True := trivial
              have tok2 : True := trivial
              by_cases hcp : c' = 0
              · have hjp : j = 0 := by omega
                go_wp2_with (first
                  | (at_builtin; have _t := tok1; refine app_int w5 rfl _ _ rfl w2.heap.size A5 _ c5 _ rfl O5.out X (by omega) (by omega) rfl (by omega) hsz5 ?_; intro A6 c6 w6 p1 p2; have O6 := Lib.hid p1; have HO6 := Lib.hid (HO5.out.kept_old OB.out GB.out p2); have hb6 := bel_app hb5 O5.out.1 p2 hsz5; have hsz6 := hb6.size; clear p1 p2 tok1)
                  | (at_builtin; have _t := tok2; refine app_ints w6 rfl _ _ rfl w2.heap.size A6 _ c6 _ rfl O6.out _ _ _ _ (E.drop (0)) rfl (HO6.out.ints.backE (k := 0) (by omega) _ (by omega) _ (fun h => absurd h (by omega))) (by omega) (by omega) hsz6 ?_; intro A7 c7 w7 p1 p2 p3; have O7 := Lib.hid p1; have hb7 := bel_app hb6 O6.out.1 p2 hsz6; clear p1 p2 p3 tok2))
                obtain ⟨g7, e7, _, _⟩ := O7.out.form (by omega)
                subst e7
                have O8 := O7.out.recount (m := j + 1) (by omega)
                have EI : E.take (0) ++ [X] ++ E.drop (0) = effT 1 (vs.zip ws) (j + 1) := by rw [ES.out, EX.out]; unfold insD; rw [HI0.out, List.append_assoc]; rfl
                rw [EI] at O8
                go_roundw
                case rel => exact ⟨j + 1, g7, c7, by omega, by go_num, by simp only [Value.slice.injEq, true_and, and_true]; omega, O8, hb7⟩
                case measure => simp [intOf]; omega
              · go_wp2_with (first
                  | (at_builtin; have _t := tok1; refine app_int w5 rfl _ _ rfl w2.heap.size A5 _ c5 _ rfl O5.out X (by omega) (by omega) rfl (by omega) hsz5 ?_; intro A6 c6 w6 p1 p2; have O6 := Lib.hid p1; have HO6 := Lib.hid (HO5.out.kept_old OB.out GB.out p2); have hb6 := bel_app hb5 O5.out.1 p2 hsz5; have hsz6 := hb6.size; clear p1 p2 tok1)
                  | (at_builtin; have _t := tok2; refine app_ints w6 rfl _ _ rfl w2.heap.size A6 _ c6 _ rfl O6.out _ _ _ _ (E.drop (0)) rfl (HO6.out.ints.backE (k := 0) (by omega) _ (by omega) _ (fun _ => by simp)) (by omega) (by omega) hsz6 ?_; intro A7 c7 w7 p1 p2 p3; have O7 := Lib.hid p1; have hb7 := bel_app hb6 O6.out.1 p2 hsz6; clear p1 p2 p3 tok2))
                obtain ⟨g7, e7, _, _⟩ := O7.out.form (by omega)
                subst e7
                have O8 := O7.out.recount (m := j + 1) (by omega)
                have EI : E.take (0) ++ [X] ++ E.drop (0) = effT 1 (vs.zip ws) (j + 1) := by rw [ES.out, EX.out]; unfold insD; rw [HI0.out, List.append_assoc]; rfl
                rw [EI] at O8
                go_roundw
                case rel => exact ⟨j + 1, g7, c7, by omega, by go_num, by simp only [Value.slice.injEq, true_and, and_true]; omega, O8, hb7⟩
                case measure => simp [intOf]; omega
            · obtain ⟨a, rfl⟩ : ∃ a', a = a' + 1 := ⟨a - 1, by omega⟩
              have haj : a < E.length := by rw [HEL.out]; omega
              obtain ⟨x, hx⟩ : ∃ x, E[a]? = some x := ⟨_, List.getElem?_eq_getElem haj⟩
              have hxd : E.getD a 0 = x := by rw [List.getD_eq_getElem?_getD, hx]; rfl
              have bx := HEB.out x (mem_of_at hx)
              have cx := HO.out.cell hx
              rw [Int.natCast_add, Int.natCast_one]
              by_cases hlx : x < X
              · have HI1 := Lib.hid (insAt_down HI.out (by rw [hxd]; exact hlx))
                clear hx hxd haj
                go_wp2_with fail
                go_round
                case rel => exact ⟨a, by omega, by go_num, HI1.out⟩
                case measure => simp [intOf]
              · have HI0 := Lib.hid (insAt_stop HI.out (by rw [hxd]; exact hlx))
                clear hx hxd haj
                go_wp2_with fail
                have F1 := HO.out.ints.front (k := a + 1) (by omega)
                refine (l00Own_any _ (a + 1) c' (E.take (a + 1)) _ F1 (by omega)).mono ?_
                rintro e w5 ⟨A5, c5, rfl, o5, b5⟩
                have O5 := Lib.hid (o5.mono hsz)
                have HO5 := Lib.hid (HO.out.below b5)
                have hb5 : Below w2.heap.size w2 w5 := hbel.trans (b5.mono hsz)
                have hsz5 := hb5.size
                have OB := Lib.hid o5
                have GB := Lib.hid (fun x hx => (HO.out.block x hx).2)
                clear o5 F1
                have tok1 : True := trivial
                have tok2 : True := trivial
                by_cases hcp : c' = a + 1
                · have hjp : j = a + 1 := by omega
                  go_wp2_with (first
                    | (at_builtin; have _t := tok1; refine app_int w5 rfl _ _ rfl w2.heap.size A5 _ c5 _ rfl O5.out X (by omega) (by omega) rfl (by omega) hsz5 ?_; intro A6 c6 w6 p1 p2; have O6 := Lib.hid p1; have HO6 := Lib.hid (HO5.out.kept_old OB.out GB.out p2); have hb6 := bel_app hb5 O5.out.1 p2 hsz5; have hsz6 := hb6.size; clear p1 p2 tok1)
                    | (at_builtin; have _t := tok2; refine app_ints w6 rfl _ _ rfl w2.heap.size A6 _ c6 _ rfl O6.out _ _ _ _ (E.drop (a + 1)) rfl (HO6.out.ints.backE (k := a + 1) (by omega) _ (by omega) _ (fun h => absurd h (by omega))) (by omega) (by omega) hsz6 ?_; intro A7 c7 w7 p1 p2 p3; have O7 := Lib.hid p1; have hb7 := bel_app hb6 O6.out.1 p2 hsz6; clear p1 p2 p3 tok2))
                  obtain ⟨g7, e7, _, _⟩ := O7.out.form (by omega)
                  subst e7
                  have O8 := O7.out.recount (m := j + 1) (by omega)
                  have EI : E.take (a + 1) ++ [X] ++ E.drop (a + 1) = effT 1 (vs.zip ws) (j + 1) := by rw [ES.out, EX.out]; unfold insD; rw [HI0.out, List.append_assoc]; rfl
                  rw [EI] at O8
                  go_roundw
                  case rel => exact ⟨j + 1, g7, c7, by omega, by go_num, by simp only [Value.slice.injEq, true_and, and_true]; omega, O8, hb7⟩
                  case measure => simp [intOf]; omega
                · go_wp2_with (first
                    | (at_builtin; have _t := tok1; refine app_int w5 rfl _ _ rfl w2.heap.size A5 _ c5 _ rfl O5.out X (by omega) (by omega) rfl (by omega) hsz5 ?_; intro A6 c6 w6 p1 p2; have O6 := Lib.hid p1; have HO6 := Lib.hid (HO5.out.kept_old OB.out GB.out p2); have hb6 := bel_app hb5 O5.out.1 p2 hsz5; have hsz6 := hb6.size; clear p1 p2 tok1)
                    | (at_builtin; have _t := tok2; refine app_ints w6 rfl _ _ rfl w2.heap.size A6 _ c6 _ rfl O6.out _ _ _ _ (E.drop (a + 1)) rfl (HO6.out.ints.backE (k := a + 1) (by omega) _ (by omega) _ (fun _ => by simp)) (by omega) (by omega) hsz6 ?_; intro A7 c7 w7 p1 p2 p3; have O7 := Lib.hid p1; have hb7 := bel_app hb6 O6.out.1 p2 hsz6; clear p1 p2 p3 tok2))
                  obtain ⟨g7, e7, _, _⟩ := O7.out.form (by omega)
                  subst e7
                  have O8 := O7.out.recount (m := j + 1) (by omega)
                  have EI : E.take (a + 1) ++ [X] ++ E.drop (a + 1) = effT 1 (vs.zip ws) (j + 1) := by rw [ES.out, EX.out]; unfold insD; rw [HI0.out, List.append_assoc]; rfl
                  rw [EI] at O8
                  go_roundw
                  case rel => exact ⟨j + 1, g7, c7, by omega, by go_num, by simp only [Value.slice.injEq, true_and, and_true]; omega, O8, hb7⟩
                  case measure => simp [intOf]; omega
      · obtain rfl : j = m := by omega
        have gE := effT_end (ag := 1) (vs := vs) (ws := ws) hl.out
        have MD : Hid (marg vs ws = cutF (x1 - x0) 0 (effT 1 (vs.zip ws) j)) := by show _ = _; rw [MG.out, gE]
        clear hown EL EB gE MG
        obtain ⟨D, hD⟩ : ∃ D, effT 1 (vs.zip ws) j = D := ⟨_, rfl⟩
        rw [hD] at HO HEL HEB MD
        clear hD
        have DI := HO.out.ints
        go_wp2_with fail
        go_loop [7, 13] (fun t i => ∃ (q : Nat) (N : Int), q ≤ j ∧ i = .int .i64 q ∧ t = .int .i64 N ∧ CutAt D N q (marg vs ws)) (fun _ i => j - (intOf i).toNat)
        case atStart => exact ⟨0, _, Nat.zero_le _, rfl, rfl, by omega, by omega, MD.out.symm⟩
        case round =>
          obtain ⟨i, N, hi, rfl, rfl, hcut⟩ := hrel
          have n0 := hcut.pos
          have n1 := hcut.hi
          have CA := Lib.hid hcut
          clear hcut
          by_cases hlt2 : i < j
          · obtain ⟨b, off, x, eg, hbz, hcell, hz1, hz2, hx⟩ := DI.at hlt2
            simp only [Option.some.injEq, Addr.mk.injEq, and_true] at eg
            obtain ⟨rfl, rfl⟩ := eg
            rw [Nat.zero_add] at hcell
            have bx := HEB.out x (mem_of_at hx.out)
            by_cases hs : N - x ≤ 0
            · have R := Lib.hid (CA.out.stop hx.out hs)
              go_wp2_with fail
              go_ret
              exact ⟨ret_int R.out.symm, bbr⟩
            · have CN := Lib.hid (CA.out.next hx.out bx.1 hs)
              go_wp2_with fail
              go_round
              case rel => exact ⟨i + 1, _, by omega, by go_num, rfl, CN.out⟩
              case measure => simp [intOf]; omega
          · have R := Lib.hid (CA.out.done (by rw [HEL.out]; omega))
            go_wp2_with fail
            go_ret
            exact ⟨ret_int R.out.symm, bbr⟩
  · have MG : Hid (marg vs ws = cutF (x0 - x1 + 1) 0 (effects 0 vs ws)) := by
      show _ = _
      rw [← ME.out]
      unfold mNeed mAg mDiff
      rw [E0.out, E1.out, if_neg hd, if_neg hd]
    go_enter Try.func46, Try.ntmps46
    go_wp2_with fail
    refine (l09Open_any A m c vs B d ws _ h k G2 G4 g1).mono ?_
    rintro e w2 ⟨g, rfl, ho, bb2⟩
    have q0 := ho.cell HX0.out
    have q1 := ho.cell HX1.out
    have s2 := bb2.size
    clear ho
    go_wp2_with fail
    go_quiet (fail)
    go_wp2_with fail
    skip
    go_wp2_with fail
    go_loopw [8, 9] (fun t i wr => ∃ (j : Nat) (g' c' : Nat), j ≤ m ∧ i = .int .i64 j ∧ t = .slice (some ⟨g', 0, none⟩) j c' ∧ OwnI wr w2.heap.size (some ⟨g', 0, none⟩) j c' (effT 0 (vs.zip ws) j) ∧ Below w2.heap.size w2 wr) (fun _ i _ => m - (intOf i).toNat)
    case atStart => exact ⟨0, _, _, Nat.zero_le _, rfl, rfl, ownI_lit (w2.drewN _), (below_drewN (Below.refl _ w2) _).alloc (Nat.le_refl _) _⟩
    case round =>
      obtain ⟨j, g', c', hj, rfl, rfl, hown, hbel⟩ := hrel
      have bbr := bb2.trans (hbel.mono s2)
      obtain ⟨EL, EB⟩ := effT_ok (ag := 0) (vs := vs) hl.out kl.out G4.out j hj
      have HO := Lib.hid hown
      have HEL := Lib.hid EL
      have HEB := Lib.hid EB
      have hsz := hbel.size
      have hcj : j ≤ c' := hown.ints.2.1
      have hcm : c' ≤ 9223372036854775807 := by have := hown.ints.2.2.1; unfold maxLen at this; omega
      by_cases hlt : j < m
      · obtain ⟨b, off, z, rfl, hbz, hcell, hz1, hz2, hz⟩ := (h.below bbr).at hlt
        obtain ⟨b', off', y, rfl, hby, hcell', hy1, hy2, hy⟩ := (k.below bbr).at hlt
        have bz := voteB_true (G2.out z (mem_of_at hz.out))
        have by_ := weightB_true (G4.out y (mem_of_at hy.out))
        have ES := Lib.hid (effT_succ (ag := 0) hz.out hy.out)
        have bX := effX_bd (ag := 0) (p := (z, y)) by_
        obtain ⟨X, hX⟩ : ∃ X, effX 0 (z, y) = X := ⟨_, rfl⟩
        rw [hX] at bX
        have EX := Lib.hid hX
        clear hown EL EB hX
        go_upto_if 50 with (fail)
        go_cut [10] (fun t wx => t = .int .i64 X ∧ wx = wr)
        case first =>
          by_cases e1 : z = 0
          · have e3 : X = 2 * y := by rw [← EX.out]; unfold effX; rw [if_pos e1]
            subst e1
            go_wp2_with fail
            go_meet
            case rel => exact ⟨by rw [e3]; congr 1; omega, rfl⟩
          · have e1' : (z == 0) = false := by simpa using e1
            by_cases e2 : z = 2
            · have e3 : X = y := by rw [← EX.out]; unfold effX; rw [if_neg e1, if_pos e2]
              subst e2
              go_wp2_with fail
              go_meet
              case rel => exact ⟨by rw [e3], rfl⟩
            · have e2' : (z != 2) = true := by simpa using e2
              have e3 : X = 0 := by rw [← EX.out]; unfold effX; rw [if_neg e1, if_neg e2]
              go_wp2_with fail
              go_meet
              case rel => exact ⟨by rw [e3], rfl⟩
        case rest =>
          obtain ⟨rfl, rfl⟩ := hcut
          obtain ⟨wr, hwr⟩ : ∃ W, W = wc := ⟨_, rfl⟩
          subst hwr
          obtain ⟨E, hE⟩ : ∃ E, effT 0 (vs.zip ws) j = E := ⟨_, rfl⟩
          rw [hE] at HO HEL HEB ES
          have HE := Lib.hid hE
          clear hE
          go_wp2_with fail
          go_loop [11] (fun t => ∃ a : Nat, a ≤ j ∧ t = .int .i64 a ∧ insAt E X E.length = insAt E X a) (fun t => (intOf t).toNat)
          case atStart => exact ⟨j, Nat.le_refl _, rfl, by rw [HEL.out]⟩
          case round =>
            obtain ⟨a, ha, rfl, hins⟩ := hrel
            have HI := Lib.hid hins
            clear hins
            rcases Nat.eq_zero_or_pos a with h0 | h0
            · subst h0
              have HI0 : Hid (insAt E X E.length = 0) := by show _ = _; rw [HI.out]; rfl
              go_wp2_with fail
              have F1 := HO.out.ints.front (k := 0) (by omega)
              refine (l00Own_any _ (0) c' (E.take (0)) _ F1 (by omega)).mono ?_
              rintro e w5 ⟨A5, c5, rfl, o5, b5⟩
              have O5 := Lib.hid (o5.mono hsz)
              have HO5 := Lib.hid (HO.out.below b5)
              have hb5 : Below w2.heap.size w2 w5 := hbel.trans (b5.mono hsz)
              have hsz5 := hb5.size
              have OB := Lib.hid o5
              have GB := Lib.hid (fun x hx => (HO.out.block x hx).2)
              clear o5 F1
              have tok1 : True := trivial
              have tok2 : True := trivial
              by_cases hcp : c' = 0
              · have hjp : j = 0 := by omega
                go_wp2_with (first
                  | (at_builtin; have _t := tok1; refine app_int w5 rfl _ _ rfl w2.heap.size A5 _ c5 _ rfl O5.out X (by omega) (by omega) rfl (by omega) hsz5 ?_; intro A6 c6 w6 p1 p2; have O6 := Lib.hid p1; have HO6 := Lib.hid (HO5.out.kept_old OB.out GB.out p2); have hb6 := bel_app hb5 O5.out.1 p2 hsz5; have hsz6 := hb6.size; clear p1 p2 tok1)
                  | (at_builtin; have _t := tok2; refine app_ints w6 rfl _ _ rfl w2.heap.size A6 _ c6 _ rfl O6.out _ _ _ _ (E.drop (0)) rfl (HO6.out.ints.backE (k := 0) (by omega) _ (by omega) _ (fun h => absurd h (by omega))) (by omega) (by omega) hsz6 ?_; intro A7 c7 w7 p1 p2 p3; have O7 := Lib.hid p1; have hb7 := bel_app hb6 O6.out.1 p2 hsz6; clear p1 p2 p3 tok2))
                obtain ⟨g7, e7, _, _⟩ := O7.out.form (by omega)
                subst e7
                have O8 := O7.out.recount (m := j + 1) (by omega)
                have EI : E.take (0) ++ [X] ++ E.drop (0) = effT 0 (vs.zip ws) (j + 1) := by rw [ES.out, EX.out]; unfold insD; rw [HI0.out, List.append_assoc]; rfl
                rw [EI] at O8
                go_roundw
                case rel => exact ⟨j + 1, g7, c7, by omega, by go_num, by simp only [Value.slice.injEq, true_and, and_true]; omega, O8, hb7⟩
                case measure => simp [intOf]; omega
              · go_wp2_with (first
                  | (at_builtin; have _t := tok1; refine app_int w5 rfl _ _ rfl w2.heap.size A5 _ c5 _ rfl O5.out X (by omega) (by omega) rfl (by omega) hsz5 ?_; intro A6 c6 w6 p1 p2; have O6 := Lib.hid p1; have HO6 := Lib.hid (HO5.out.kept_old OB.out GB.out p2); have hb6 := bel_app hb5 O5.out.1 p2 hsz5; have hsz6 := hb6.size; clear p1 p2 tok1)
                  | (at_builtin; have _t := tok2; refine app_ints w6 rfl _ _ rfl w2.heap.size A6 _ c6 _ rfl O6.out _ _ _ _ (E.drop (0)) rfl (HO6.out.ints.backE (k := 0) (by omega) _ (by omega) _ (fun _ => by simp)) (by omega) (by omega) hsz6 ?_; intro A7 c7 w7 p1 p2 p3; have O7 := Lib.hid p1; have hb7 := bel_app hb6 O6.out.1 p2 hsz6; clear p1 p2 p3 tok2))
                obtain ⟨g7, e7, _, _⟩ := O7.out.form (by omega)
                subst e7
                have O8 := O7.out.recount (m := j + 1) (by omega)
                have EI : E.take (0) ++ [X] ++ E.drop (0) = effT 0 (vs.zip ws) (j + 1) := by rw [ES.out, EX.out]; unfold insD; rw [HI0.out, List.append_assoc]; rfl
                rw [EI] at O8
                go_roundw
                case rel => exact ⟨j + 1, g7, c7, by omega, by go_num, by simp only [Value.slice.injEq, true_and, and_true]; omega, O8, hb7⟩
                case measure => simp [intOf]; omega
            · obtain ⟨a, rfl⟩ : ∃ a', a = a' + 1 := ⟨a - 1, by omega⟩
              have haj : a < E.length := by rw [HEL.out]; omega
              obtain ⟨x, hx⟩ : ∃ x, E[a]? = some x := ⟨_, List.getElem?_eq_getElem haj⟩
              have hxd : E.getD a 0 = x := by rw [List.getD_eq_getElem?_getD, hx]; rfl
              have bx := HEB.out x (mem_of_at hx)
              have cx := HO.out.cell hx
              rw [Int.natCast_add, Int.natCast_one]
              by_cases hlx : x < X
              · have HI1 := Lib.hid (insAt_down HI.out (by rw [hxd]; exact hlx))
                clear hx hxd haj
                go_wp2_with fail
                go_round
                case rel => exact ⟨a, by omega, by go_num, HI1.out⟩
                case measure => simp [intOf]
              · have HI0 := Lib.hid (insAt_stop HI.out (by rw [hxd]; exact hlx))
                clear hx hxd haj
                go_wp2_with fail
                have F1 := HO.out.ints.front (k := a + 1) (by omega)
                refine (l00Own_any _ (a + 1) c' (E.take (a + 1)) _ F1 (by omega)).mono ?_
                rintro e w5 ⟨A5, c5, rfl, o5, b5⟩
                have O5 := Lib.hid (o5.mono hsz)
                have HO5 := Lib.hid (HO.out.below b5)
                have hb5 : Below w2.heap.size w2 w5 := hbel.trans (b5.mono hsz)
                have hsz5 := hb5.size
                have OB := Lib.hid o5
                have GB := Lib.hid (fun x hx => (HO.out.block x hx).2)
                clear o5 F1
                have tok1 : True := trivial
                have tok2 : True := trivial
                by_cases hcp : c' = a + 1
                · have hjp : j = a + 1 := by omega
                  go_wp2_with (first
                    | (at_builtin; have _t := tok1; refine app_int w5 rfl _ _ rfl w2.heap.size A5 _ c5 _ rfl O5.out X (by omega) (by omega) rfl (by omega) hsz5 ?_; intro A6 c6 w6 p1 p2; have O6 := Lib.hid p1; have HO6 := Lib.hid (HO5.out.kept_old OB.out GB.out p2); have hb6 := bel_app hb5 O5.out.1 p2 hsz5; have hsz6 := hb6.size; clear p1 p2 tok1)
                    | (at_builtin; have _t := tok2; refine app_ints w6 rfl _ _ rfl w2.heap.size A6 _ c6 _ rfl O6.out _ _ _ _ (E.drop (a + 1)) rfl (HO6.out.ints.backE (k := a + 1) (by omega) _ (by omega) _ (fun h => absurd h (by omega))) (by omega) (by omega) hsz6 ?_; intro A7 c7 w7 p1 p2 p3; have O7 := Lib.hid p1; have hb7 := bel_app hb6 O6.out.1 p2 hsz6; clear p1 p2 p3 tok2))
                  obtain ⟨g7, e7, _, _⟩ := O7.out.form (by omega)
                  subst e7
                  have O8 := O7.out.recount (m := j + 1) (by omega)
                  have EI : E.take (a + 1) ++ [X] ++ E.drop (a + 1) = effT 0 (vs.zip ws) (j + 1) := by rw [ES.out, EX.out]; unfold insD; rw [HI0.out, List.append_assoc]; rfl
                  rw [EI] at O8
                  go_roundw
                  case rel => exact ⟨j + 1, g7, c7, by omega, by go_num, by simp only [Value.slice.injEq, true_and, and_true]; omega, O8, hb7⟩
                  case measure => simp [intOf]; omega
                · go_wp2_with (first
                    | (at_builtin; have _t := tok1; refine app_int w5 rfl _ _ rfl w2.heap.size A5 _ c5 _ rfl O5.out X (by omega) (by omega) rfl (by omega) hsz5 ?_; intro A6 c6 w6 p1 p2; have O6 := Lib.hid p1; have HO6 := Lib.hid (HO5.out.kept_old OB.out GB.out p2); have hb6 := bel_app hb5 O5.out.1 p2 hsz5; have hsz6 := hb6.size; clear p1 p2 tok1)
                    | (at_builtin; have _t := tok2; refine app_ints w6 rfl _ _ rfl w2.heap.size A6 _ c6 _ rfl O6.out _ _ _ _ (E.drop (a + 1)) rfl (HO6.out.ints.backE (k := a + 1) (by omega) _ (by omega) _ (fun _ => by simp)) (by omega) (by omega) hsz6 ?_; intro A7 c7 w7 p1 p2 p3; have O7 := Lib.hid p1; have hb7 := bel_app hb6 O6.out.1 p2 hsz6; clear p1 p2 p3 tok2))
                  obtain ⟨g7, e7, _, _⟩ := O7.out.form (by omega)
                  subst e7
                  have O8 := O7.out.recount (m := j + 1) (by omega)
                  have EI : E.take (a + 1) ++ [X] ++ E.drop (a + 1) = effT 0 (vs.zip ws) (j + 1) := by rw [ES.out, EX.out]; unfold insD; rw [HI0.out, List.append_assoc]; rfl
                  rw [EI] at O8
                  go_roundw
                  case rel => exact ⟨j + 1, g7, c7, by omega, by go_num, by simp only [Value.slice.injEq, true_and, and_true]; omega, O8, hb7⟩
                  case measure => simp [intOf]; omega
      · obtain rfl : j = m := by omega
        have gE := effT_end (ag := 0) (vs := vs) (ws := ws) hl.out
        have MD : Hid (marg vs ws = cutF (x0 - x1 + 1) 0 (effT 0 (vs.zip ws) j)) := by show _ = _; rw [MG.out, gE]
        clear hown EL EB gE MG
        obtain ⟨D, hD⟩ : ∃ D, effT 0 (vs.zip ws) j = D := ⟨_, rfl⟩
        rw [hD] at HO HEL HEB MD
        clear hD
        have DI := HO.out.ints
        go_wp2_with fail
        go_loop [7, 13] (fun t i => ∃ (q : Nat) (N : Int), q ≤ j ∧ i = .int .i64 q ∧ t = .int .i64 N ∧ CutAt D N q (marg vs ws)) (fun _ i => j - (intOf i).toNat)
        case atStart => exact ⟨0, _, Nat.zero_le _, rfl, rfl, by omega, by omega, MD.out.symm⟩
        case round =>
          obtain ⟨i, N, hi, rfl, rfl, hcut⟩ := hrel
          have n0 := hcut.pos
          have n1 := hcut.hi
          have CA := Lib.hid hcut
          clear hcut
          by_cases hlt2 : i < j
          · obtain ⟨b, off, x, eg, hbz, hcell, hz1, hz2, hx⟩ := DI.at hlt2
            simp only [Option.some.injEq, Addr.mk.injEq, and_true] at eg
            obtain ⟨rfl, rfl⟩ := eg
            rw [Nat.zero_add] at hcell
            have bx := HEB.out x (mem_of_at hx.out)
            by_cases hs : N - x ≤ 0
            · have R := Lib.hid (CA.out.stop hx.out hs)
              go_wp2_with fail
              go_ret
              exact ⟨ret_int R.out.symm, bbr⟩
            · have CN := Lib.hid (CA.out.next hx.out bx.1 hs)
              go_wp2_with fail
              go_round
              case rel => exact ⟨i + 1, _, by omega, by go_num, rfl, CN.out⟩
              case measure => simp [intOf]; omega
          · have R := Lib.hid (CA.out.done (by rw [HEL.out]; omega))
            go_wp2_with fail
            go_ret
            exact ⟨ret_int R.out.symm, bbr⟩
theorem l00Max_0 (r : Int) (w : World) : Calls Try.prog 47 #[.int .i64 r, .int .i64 0] w fun e w' => e = .returned (.int .i64 (if 0 < r then r else 0)) ∧ w = w' := by
  by_cases h : 0 < r
  · rw [if_pos h]
    go_enter Try.func47, Try.ntmps47
    go_wp2_with fail
    go_ret
    exact ⟨rfl, rfl⟩
  · rw [if_neg h]
    go_enter Try.func47, Try.ntmps47
    go_wp2_with fail
    go_ret
    exact ⟨rfl, rfl⟩
theorem marg_cut (vs ws : List Int) : marg vs ws = -1 ∨ 0 < marg vs ws := (cutF_bd _ _ 0 (Int.le_refl 0)).1
theorem specMarginOf_any (A : Option Addr) (n c : Nat) (vs : List Int) (B : Option Addr) (m d : Nat) (ws : List Int) (w : World) (h : Ints .i64 w A n c vs) (k : Ints .i64 w B m d ws) :
    Calls Try.prog 10 #[.slice A n c, .slice B m d] w fun e w' => e = .returned (.tuple #[.int .i64 (margV vs ws), .bool (margB vs ws)]) ∧ Below w.heap.size w w' := by
  have hl := Lib.hid h.1
  have kl := Lib.hid k.1
  cases hv : votesB vs ws
  · have HV := Lib.hid hv
    have R := Lib.hid (marg_no hv)
    clear hv
    go_enter Try.func10, Try.ntmps10
    go_wp2_with fail
    refine (l09Votes_any A n c vs B m d ws _ h k).mono ?_
    rintro e w1 ⟨rfl, rfl⟩
    rw [HV.out]
    go_wp2_with fail
    go_ret2
    exact ⟨ret_ib R.out.1.symm R.out.2.symm, Below.refl _ _⟩
  · have HV := Lib.hid hv
    obtain ⟨g1, g2, g3, g4⟩ := votesB_true hl.out hv
    obtain rfl : m = n := kl.out.symm.trans g3
    have CM := Lib.hid (l09Margin_any A m c vs B d ws w h k hv)
    obtain ⟨r, hr⟩ : ∃ r, marg vs ws = r := ⟨_, rfl⟩
    have hc := marg_cut vs ws
    rw [hr] at CM hc
    have R : Hid ((if 0 < r then r else 0) = margV vs ws ∧ decide (0 < r) = margB vs ws) := by
      show _ ∧ _
      rcases hc with h1 | h1
      · obtain ⟨e1, e2⟩ := marg_none hv (hr.trans h1)
        rw [e1, e2, h1]; decide
      · obtain ⟨e1, e2⟩ := marg_yes hv hr h1
        rw [e1, e2, if_pos h1]; simp [h1]
    obtain ⟨x, hx⟩ : ∃ x, (if 0 < r then r else 0) = x := ⟨_, rfl⟩
    have HM := Lib.hid (fun W => l00Max_0 r W)
    rw [hx] at HM R
    clear hv g2 g3 g4 hr hx
    go_enter Try.func10, Try.ntmps10
    go_wp2_with fail
    refine (l09Votes_any A m c vs B m d ws _ h k).mono ?_
    rintro e w1 ⟨rfl, rfl⟩
    rw [HV.out]
    go_wp2_with fail
    refine CM.out.mono ?_
    rintro e w2 ⟨rfl, hb⟩
    go_wp2_with fail
    refine (HM.out _).mono ?_
    rintro e w3 ⟨rfl, rfl⟩
    go_wp2_with fail
    go_ret2
    exact ⟨ret_ib R.out.1 R.out.2, hb⟩
theorem fnExactMarginOf_walk (w : World) (A : Option Addr) (n c : Nat) (zs : List Int) (h : Ints .i64 w A n c zs) (B : Option Addr) (m d : Nat) (ys : List Int) (k : Ints .i64 w B m d ys) :
    Calls Try.prog 3 #[.slice A n c, .slice B m d] w fun e w' => e = .returned (.bool true) ∧ Below w.heap.size w w' := by
  have hm := h.short
  have km := k.short
  by_cases hn : n ≤ 1048576
  · by_cases hn2 : m ≤ 1048576
    · go_enter Try.func3, Try.ntmps3
      go_wp2_with fail
      refine (toInt64S_any A n c zs _ h hn).mono ?_
      rintro e w1 ⟨A1, c1, rfl, o1, b1⟩
      go_wp2_with fail
      refine (toInt64S_any B m d ys _ (k.below b1) hn2).mono ?_
      rintro e w2 ⟨A2, c2, rfl, o2, b2⟩
      have b12 := bel_trans b1 b2
      go_wp2_with fail
      refine (specMarginOf_any A1 _ c1 zs A2 _ c2 ys _ (o1.ints.below b2) o2.ints).mono ?_
      rintro e w3 ⟨rfl, b3⟩
      have b13 := bel_trans b12 b3
      go_wp2_with fail
      refine (toInt64S_any A n c zs _ (h.below b13) hn).mono ?_
      rintro e w4 ⟨A4, c4, rfl, o4, b4⟩
      have b14 := bel_trans b13 b4
      go_wp2_with fail
      refine (toInt64S_any B m d ys _ (k.below b14) hn2).mono ?_
      rintro e w5 ⟨A5, c5, rfl, o5, b5⟩
      have b15 := bel_trans b14 b5
      go_wp2_with fail
      refine (implMarginOf_any A4 _ c4 zs A5 _ c5 ys _ (o4.ints.below b5) o5.ints).mono ?_
      rintro e w6 ⟨rfl, b6⟩
      have b16 := bel_trans b15 b6
      go_wp2_with fail
      refine (toInt64S_any A n c zs _ (h.below b16) hn).mono ?_
      rintro e w7 ⟨A7, c7, rfl, o7, b7⟩
      have b17 := bel_trans b16 b7
      go_wp2_with fail
      refine (eqInt64S_any _ _ _ zs _ _ _ zs _ (((o4.ints.below b5).below b6).below b7) o7.ints).mono ?_
      rintro e w8 ⟨rfl, b8⟩
      have b18 := bel_trans b17 b8
      go_wp2_with fail
      refine (toInt64S_any B m d ys _ (k.below b18) hn2).mono ?_
      rintro e w9 ⟨A9, c9, rfl, o9, b9⟩
      have b19 := bel_trans b18 b9
      go_wp2_with fail
      refine (eqInt64S_any _ _ _ ys _ _ _ ys _ ((((o5.ints.below b6).below b7).below b8).below b9) o9.ints).mono ?_
      rintro e w10 ⟨rfl, b10⟩
      have b20 := bel_trans b19 b10
      go_wp2_with fail
      go_ret
      exact ⟨rfl, b20⟩
    · go_enter Try.func3, Try.ntmps3
      go_wp2_with fail
      go_ret
      exact ⟨rfl, Below.refl _ _⟩
  · go_enter Try.func3, Try.ntmps3
    go_wp2_with fail
    go_ret
    exact ⟨rfl, Below.refl _ _⟩
end Go.Proofs.Ytfanjnoaifhnnaa
