/- The reference's votes with another result. -/
import Derived.Test.YtfanjnoaifhnnaaVotes
import Derived.Deep.DeepCutAuto
namespace Go.Proofs.Ytfanjnoaifhnnaa
set_option linter.unusedVariables false
open Go.RowKit
/-- What the loop that changes votes holds. -/
structure ChgOk (vs ws out : List Int) (n r : Nat) : Prop where
  len : out.length = n
  hv : ∀ z ∈ out, voteB z = true
  left : (0 < r ∧ adopt out ws = adopt vs ws ∧ marg out ws = r) ∨ (r = 0 ∧ adopt out ws ≠ adopt vs ws)
theorem ChgOk.next {vs ws out : List Int} {n r b : Nat} {m : Int} (h : ChgOk vs ws out n (r + 1)) (hl : ws.length = n) (hw : ∀ z ∈ ws, 0 ≤ z) (hb : Best (if adopt vs ws then 0 else 1) out ws n b m) :
    b < n ∧ ChgOk vs ws (out.set b (if adopt vs ws then 0 else 1)) n r := by
  rcases h.left with ⟨_, h1, h2⟩ | ⟨h0, _⟩
  · rw [← h1] at hb
    have hlen := h.len
    obtain ⟨g1, g2, g3⟩ := greedy_step (b := b) (m := m) (by rw [hlen, hl]) h.hv hw h2 (by omega) (by rw [hlen]; exact hb)
    rw [h1] at g2 g3
    refine ⟨by omega, ⟨by simp [hlen], ?_, ?_⟩⟩
    · intro z hz
      rcases List.mem_or_eq_of_mem_set hz with hz | rfl
      · exact h.hv z hz
      · split <;> decide
    · rcases Nat.eq_zero_or_pos r with h0 | h0
      · subst h0
        exact .inr ⟨rfl, g2 (by omega)⟩
      · obtain ⟨q1, q2⟩ := g3 (by omega)
        exact .inl ⟨h0, q1, by rw [q2]; omega⟩
  · omega
/-- Votes with the other result, and whether there are any. -/
def GivesChg (vs ws : List Int) (n : Nat) (w : World) (e : Ending) (w' : World) : Prop :=
  ∃ (A : Option Addr) (c : Nat) (m : Nat) (out : List Int), e = .returned (.tuple #[.slice A m c, .bool (decide (0 < marg vs ws))]) ∧ Ints .i64 w' A m c out ∧
    (0 < marg vs ws → m = n ∧ (∀ z ∈ out, voteB z = true) ∧ adopt out ws ≠ adopt vs ws) ∧ Below w.heap.size w w'
theorem votesB_mk {vs ws : List Int} {n : Nat} (hl : vs.length = n) (kl : ws.length = n) (hn : n ≤ 30) (hv : ∀ z ∈ vs, voteB z = true) (hw : ∀ z ∈ ws, weightB z = true) : votesB vs ws = true := by
  rw [votesB_len hl hn (List.all_eq_true.2 hv)]
  exact allB_true.2 ⟨by rw [kl], hw⟩
theorem marg_le' {vs ws : List Int} {n : Nat} (hl : vs.length = n) (hv : votesB vs ws = true) : marg vs ws ≤ n := by
  obtain ⟨g1, g2, g3, g4⟩ := votesB_true hl hv
  have h1 := (cutF_bd (desc (gains (mAg vs ws) vs ws)) (mNeed vs ws) 0 (Int.le_refl 0)).2
  have h2 := (gainT_ok (ag := mAg vs ws) (vs := vs) g4 n).1
  rw [gainT_end hl] at h2
  rw [desc_length] at h1
  unfold marg
  omega
set_option maxRecDepth 100000 in
set_option maxHeartbeats 4000000 in
theorem R8Changed_any (A : Option Addr) (n c : Nat) (vs : List Int) (B : Option Addr) (d : Nat) (ws : List Int) (w : World) (h : Ints .i64 w A n c vs) (k : Ints .i64 w B n d ws) (hv : votesB vs ws = true) :
    Calls Try.prog 17 #[.slice A n c, .slice B n d] w (GivesChg vs ws n w) := by
  have hl := Lib.hid h.1
  have kl := Lib.hid k.1
  obtain ⟨g1, g2, g3, g4⟩ := votesB_true hl.out hv
  have G2 := Lib.hid g2
  have G4 := Lib.hid g4
  have LM := Lib.hid (fun W (hh : Ints .i64 W A n c vs) (qq : Ints .i64 W B n d ws) => l09Margin_any A n c vs B d ws W hh qq hv)
  have hc := marg_cut vs ws
  have hle := marg_le' hl.out hv
  obtain ⟨r, hr⟩ : ∃ r, marg vs ws = r := ⟨_, rfl⟩
  rw [hr] at LM hc hle
  have HR := Lib.hid hr
  clear g2 g3 g4 hr
  by_cases hneg : r < 0
  · have DP : Hid (decide (0 < marg vs ws) = false) := by show _ = _; rw [HR.out]; simp; omega
    go_enter Try.func17, Try.ntmps17
    go_wp2_with fail
    refine (LM.out w h k).mono ?_
    rintro e w1 ⟨rfl, b1⟩
    go_wp2_with fail
    go_ret2
    exact ⟨none, 0, 0, [], by rw [DP.out]; rfl, ints_nil _ _, fun hp => by rw [HR.out] at hp; omega, b1⟩
  · have hpos : 0 < r := by omega
    have DP : Hid (decide (0 < marg vs ws) = true) := by show _ = _; rw [HR.out]; simp [hpos]
    obtain ⟨r, rfl⟩ := Int.eq_ofNat_of_zero_le (show 0 ≤ r by omega)
    cases had : adopt vs ws
    · have AD := Lib.hid had
      clear had hc hneg
      go_enter Try.func17, Try.ntmps17
      go_wp2_with fail
      refine (LM.out w h k).mono ?_
      rintro e w1 ⟨rfl, b1⟩
      go_wp2_with fail
      refine (l09Adopted_any A n c vs B d ws _ (h.below b1) (k.below b1) G2 G4 g1).mono ?_
      rintro e w2 ⟨rfl, t2⟩
      have b2 := bel_trans b1 t2
      rw [AD.out]
      go_wp2_with fail
      refine (l00Own_any A n c vs _ (h.below b2) (by omega)).mono ?_
      rintro e w3 ⟨A3, c3, rfl, o3, t3⟩
      have b3 := bel_trans b2 t3
      have s2 := b2.size
      go_wp2_with fail
      go_loopw [6] (fun t wr => ∃ (q : Nat) (out : List Int), t = .int .i64 q ∧ ChgOk vs ws out n q ∧ OwnI wr w2.heap.size A3 n c3 out ∧ Below w.heap.size w wr) (fun t _ => (intOf t).toNat)
      case atStart => exact ⟨r, vs, rfl, ⟨hl.out, G2.out, .inl ⟨by omega, rfl, HR.out⟩⟩, o3, b3⟩
      case round =>
        obtain ⟨q, out, rfl, hco, ho, hbel⟩ := hrel
        have HC := Lib.hid hco
        have HO := Lib.hid ho
        clear hco ho
        rcases Nat.eq_zero_or_pos q with h0 | h0
        · subst h0
          have HNE : Hid (adopt out ws ≠ adopt vs ws) := by
            show _ ≠ _
            rcases HC.out.left with ⟨h, _⟩ | ⟨_, h⟩
            · omega
            · exact h
          go_wp2_with fail
          go_ret2
          exact ⟨A3, c3, n, out, by rw [DP.out]; rfl, HO.out.ints, fun _ => ⟨rfl, HC.out.hv, HNE.out⟩, hbel⟩
        · obtain ⟨q, rfl⟩ : ∃ q', q = q' + 1 := ⟨q - 1, by omega⟩
          rw [Int.natCast_add, Int.natCast_one]
          have qb : q + 1 ≤ 30 := by
            rcases HC.out.left with ⟨_, _, h⟩ | ⟨h, _⟩
            · have hvt : votesB out ws = true := votesB_mk HC.out.len kl.out g1 HC.out.hv G4.out
              have := marg_le' HC.out.len hvt
              omega
            · omega
          have OI := HO.out.ints
          have kk := k.below hbel
          go_wp2_with fail
          go_loop [10, 11, 12] (fun t u i => ∃ (j b : Nat) (m : Int), i = .int .i64 j ∧ t = .int .i64 b ∧ u = .int .i64 m ∧ j ≤ n ∧ b ≤ n ∧ -1 ≤ m ∧ m ≤ 4000 ∧ Best 1 out ws j b m) (fun _ _ i => n - (intOf i).toNat)
          case atStart => exact ⟨0, 0, -1, rfl, rfl, rfl, by omega, by omega, by omega, by omega, Best.start _ _ _⟩
          case round =>
            obtain ⟨j, b, m, rfl, rfl, rfl, hj, hbn, hm1, hm2, hbest⟩ := hrel
            have HBt := Lib.hid hbest
            clear hbest
            by_cases hlt : j < n
            · obtain ⟨bo, oo, v, rfl, hbo, cv, v1, v2, hv⟩ := OI.at hlt
              obtain ⟨bw, ow, y, rfl, hbw, cy, y1, y2, hy⟩ := kk.at hlt
              have bv := voteB_true (HC.out.hv v (mem_of_at hv.out))
              have by_ := weightB_true (G4.out y (mem_of_at hy.out))
              obtain ⟨X, hX⟩ : ∃ X, xval 1 (v, y) = X := ⟨_, rfl⟩
              have bX : -1 ≤ X ∧ X ≤ 2000 := by
                rw [← hX]; unfold xval
                split
                · omega
                · split <;> simp <;> omega
              have HX := Lib.hid hX
              have HZ := Lib.hid (zip_at hv.out hy.out)
              have NB := Lib.hid (fun h => HBt.out.better HZ.out h)
              have NW := Lib.hid (fun h => HBt.out.worse HZ.out h)
              rw [hX] at NB NW
              clear hX
              by_cases e1 : v = 1
              · have hX2 : X = -1 := by rw [← HX.out]; unfold xval; rw [if_pos e1]
                subst hX2
                subst e1
                by_cases hmx : m < -1
                · have NB2 := Lib.hid (NB.out hmx)
                  go_wp2_with fail
                  go_round
                  case rel => exact ⟨j + 1, j, _, by go_num, rfl, rfl, by omega, by omega, by omega, by omega, NB2.out⟩
                  case measure => simp [intOf]; omega
                · have NW2 := Lib.hid (NW.out hmx)
                  go_wp2_with fail
                  go_round
                  case rel => exact ⟨j + 1, b, m, by go_num, rfl, rfl, by omega, by omega, by omega, by omega, NW2.out⟩
                  case measure => simp [intOf]; omega
              · have e1' : (v == 1) = false := by simpa using e1
                by_cases e2 : v = 2
                · have hX2 : X = y := by rw [← HX.out]; unfold xval; rw [if_neg e1, if_pos e2]
                  subst hX2
                  subst e2
                  by_cases hmx : m < X
                  · have NB2 := Lib.hid (NB.out hmx)
                    go_wp2_with fail
                    go_round
                    case rel => exact ⟨j + 1, j, _, by go_num, rfl, rfl, by omega, by omega, by omega, by omega, NB2.out⟩
                    case measure => simp [intOf]; omega
                  · have NW2 := Lib.hid (NW.out hmx)
                    go_wp2_with fail
                    go_round
                    case rel => exact ⟨j + 1, b, m, by go_num, rfl, rfl, by omega, by omega, by omega, by omega, NW2.out⟩
                    case measure => simp [intOf]; omega
                · have hX2 : X = 2 * y := by rw [← HX.out]; unfold xval; rw [if_neg e1, if_neg e2]
                  have e2' : (v == 2) = false := by simpa using e2
                  subst hX2
                  by_cases hmx : m < 2 * y
                  · have NB2 := Lib.hid (NB.out hmx)
                    go_wp2_with fail
                    go_round
                    case rel => exact ⟨j + 1, j, _, by go_num, rfl, rfl, by omega, by omega, by omega, by omega, NB2.out⟩
                    case measure => simp [intOf]; omega
                  · have NW2 := Lib.hid (NW.out hmx)
                    go_wp2_with fail
                    go_round
                    case rel => exact ⟨j + 1, b, m, by go_num, rfl, rfl, by omega, by omega, by omega, by omega, NW2.out⟩
                    case measure => simp [intOf]; omega
            · obtain rfl : j = n := by omega
              obtain ⟨hbj, hnext⟩ := HC.out.next kl.out (fun z hz => (weightB_true (G4.out z hz)).1) (by rw [AD.out]; exact HBt.out)
              rw [AD.out] at hnext
              have HN := Lib.hid hnext
              obtain ⟨g', rfl, hg1, hg2⟩ := HO.out.form (by omega)
              have hlb : b < out.length := by rw [HC.out.len]; exact hbj
              obtain ⟨x, hx⟩ : ∃ x, out[b]? = some x := ⟨_, List.getElem?_eq_getElem hlb⟩
              have cx := HO.out.cell hx
              have fx := HO.out.free b
              have HST := Lib.hid (HO.out.set b 1 (by omega) (by omega))
              clear hnext hx hlb
              go_wp2_with fail
              go_roundw
              case rel => exact ⟨q, _, rfl, HN.out, HST.out.1, hbel.setCell (p := ⟨g', b, none⟩) (by show w.heap.size ≤ g'; omega) _⟩
              case measure => simp [intOf]
    · have AD := Lib.hid had
      clear had hc hneg
      go_enter Try.func17, Try.ntmps17
      go_wp2_with fail
      refine (LM.out w h k).mono ?_
      rintro e w1 ⟨rfl, b1⟩
      go_wp2_with fail
      refine (l09Adopted_any A n c vs B d ws _ (h.below b1) (k.below b1) G2 G4 g1).mono ?_
      rintro e w2 ⟨rfl, t2⟩
      have b2 := bel_trans b1 t2
      rw [AD.out]
      go_wp2_with fail
      refine (l00Own_any A n c vs _ (h.below b2) (by omega)).mono ?_
      rintro e w3 ⟨A3, c3, rfl, o3, t3⟩
      have b3 := bel_trans b2 t3
      have s2 := b2.size
      go_wp2_with fail
      go_loopw [6] (fun t wr => ∃ (q : Nat) (out : List Int), t = .int .i64 q ∧ ChgOk vs ws out n q ∧ OwnI wr w2.heap.size A3 n c3 out ∧ Below w.heap.size w wr) (fun t _ => (intOf t).toNat)
      case atStart => exact ⟨r, vs, rfl, ⟨hl.out, G2.out, .inl ⟨by omega, rfl, HR.out⟩⟩, o3, b3⟩
      case round =>
        obtain ⟨q, out, rfl, hco, ho, hbel⟩ := hrel
        have HC := Lib.hid hco
        have HO := Lib.hid ho
        clear hco ho
        rcases Nat.eq_zero_or_pos q with h0 | h0
        · subst h0
          have HNE : Hid (adopt out ws ≠ adopt vs ws) := by
            show _ ≠ _
            rcases HC.out.left with ⟨h, _⟩ | ⟨_, h⟩
            · omega
            · exact h
          go_wp2_with fail
          go_ret2
          exact ⟨A3, c3, n, out, by rw [DP.out]; rfl, HO.out.ints, fun _ => ⟨rfl, HC.out.hv, HNE.out⟩, hbel⟩
        · obtain ⟨q, rfl⟩ : ∃ q', q = q' + 1 := ⟨q - 1, by omega⟩
          rw [Int.natCast_add, Int.natCast_one]
          have qb : q + 1 ≤ 30 := by
            rcases HC.out.left with ⟨_, _, h⟩ | ⟨h, _⟩
            · have hvt : votesB out ws = true := votesB_mk HC.out.len kl.out g1 HC.out.hv G4.out
              have := marg_le' HC.out.len hvt
              omega
            · omega
          have OI := HO.out.ints
          have kk := k.below hbel
          go_wp2_with fail
          go_loop [10, 11, 12] (fun t u i => ∃ (j b : Nat) (m : Int), i = .int .i64 j ∧ t = .int .i64 b ∧ u = .int .i64 m ∧ j ≤ n ∧ b ≤ n ∧ -1 ≤ m ∧ m ≤ 4000 ∧ Best 0 out ws j b m) (fun _ _ i => n - (intOf i).toNat)
          case atStart => exact ⟨0, 0, -1, rfl, rfl, rfl, by omega, by omega, by omega, by omega, Best.start _ _ _⟩
          case round =>
            obtain ⟨j, b, m, rfl, rfl, rfl, hj, hbn, hm1, hm2, hbest⟩ := hrel
            have HBt := Lib.hid hbest
            clear hbest
            by_cases hlt : j < n
            · obtain ⟨bo, oo, v, rfl, hbo, cv, v1, v2, hv⟩ := OI.at hlt
              obtain ⟨bw, ow, y, rfl, hbw, cy, y1, y2, hy⟩ := kk.at hlt
              have bv := voteB_true (HC.out.hv v (mem_of_at hv.out))
              have by_ := weightB_true (G4.out y (mem_of_at hy.out))
              obtain ⟨X, hX⟩ : ∃ X, xval 0 (v, y) = X := ⟨_, rfl⟩
              have bX : -1 ≤ X ∧ X ≤ 2000 := by
                rw [← hX]; unfold xval
                split
                · omega
                · split <;> simp <;> omega
              have HX := Lib.hid hX
              have HZ := Lib.hid (zip_at hv.out hy.out)
              have NB := Lib.hid (fun h => HBt.out.better HZ.out h)
              have NW := Lib.hid (fun h => HBt.out.worse HZ.out h)
              rw [hX] at NB NW
              clear hX
              by_cases e1 : v = 0
              · have hX2 : X = -1 := by rw [← HX.out]; unfold xval; rw [if_pos e1]
                subst hX2
                subst e1
                by_cases hmx : m < -1
                · have NB2 := Lib.hid (NB.out hmx)
                  go_wp2_with fail
                  go_round
                  case rel => exact ⟨j + 1, j, _, by go_num, rfl, rfl, by omega, by omega, by omega, by omega, NB2.out⟩
                  case measure => simp [intOf]; omega
                · have NW2 := Lib.hid (NW.out hmx)
                  go_wp2_with fail
                  go_round
                  case rel => exact ⟨j + 1, b, m, by go_num, rfl, rfl, by omega, by omega, by omega, by omega, NW2.out⟩
                  case measure => simp [intOf]; omega
              · have e1' : (v == 0) = false := by simpa using e1
                by_cases e2 : v = 2
                · have hX2 : X = y := by rw [← HX.out]; unfold xval; rw [if_neg e1, if_pos e2]
                  subst hX2
                  subst e2
                  by_cases hmx : m < X
                  · have NB2 := Lib.hid (NB.out hmx)
                    go_wp2_with fail
                    go_round
                    case rel => exact ⟨j + 1, j, _, by go_num, rfl, rfl, by omega, by omega, by omega, by omega, NB2.out⟩
                    case measure => simp [intOf]; omega
                  · have NW2 := Lib.hid (NW.out hmx)
                    go_wp2_with fail
                    go_round
                    case rel => exact ⟨j + 1, b, m, by go_num, rfl, rfl, by omega, by omega, by omega, by omega, NW2.out⟩
                    case measure => simp [intOf]; omega
                · have hX2 : X = 2 * y := by rw [← HX.out]; unfold xval; rw [if_neg e1, if_neg e2]
                  have e2' : (v == 2) = false := by simpa using e2
                  subst hX2
                  by_cases hmx : m < 2 * y
                  · have NB2 := Lib.hid (NB.out hmx)
                    go_wp2_with fail
                    go_round
                    case rel => exact ⟨j + 1, j, _, by go_num, rfl, rfl, by omega, by omega, by omega, by omega, NB2.out⟩
                    case measure => simp [intOf]; omega
                  · have NW2 := Lib.hid (NW.out hmx)
                    go_wp2_with fail
                    go_round
                    case rel => exact ⟨j + 1, b, m, by go_num, rfl, rfl, by omega, by omega, by omega, by omega, NW2.out⟩
                    case measure => simp [intOf]; omega
            · obtain rfl : j = n := by omega
              obtain ⟨hbj, hnext⟩ := HC.out.next kl.out (fun z hz => (weightB_true (G4.out z hz)).1) (by rw [AD.out]; exact HBt.out)
              rw [AD.out] at hnext
              have HN := Lib.hid hnext
              obtain ⟨g', rfl, hg1, hg2⟩ := HO.out.form (by omega)
              have hlb : b < out.length := by rw [HC.out.len]; exact hbj
              obtain ⟨x, hx⟩ : ∃ x, out[b]? = some x := ⟨_, List.getElem?_eq_getElem hlb⟩
              have cx := HO.out.cell hx
              have fx := HO.out.free b
              have HST := Lib.hid (HO.out.set b 0 (by omega) (by omega))
              clear hnext hx hlb
              go_wp2_with fail
              go_roundw
              case rel => exact ⟨q, _, rfl, HN.out, HST.out.1, hbel.setCell (p := ⟨g', b, none⟩) (by show w.heap.size ≤ g'; omega) _⟩
              case measure => simp [intOf]
end Go.Proofs.Ytfanjnoaifhnnaa
