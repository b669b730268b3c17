/- Contracts of the open count of votes, of adoption, and the walks of OpenCount's and AdoptedBy's laws. -/
import Derived.Test.YtnjnngnagdhaiaaAreAll
import Derived.Test.YtnjnngnagdhaiaaMark
namespace Go.Proofs.Ytnjnngnagdhaiaa
set_option linter.unusedVariables false
open Go.RowKit Go.Deep

def votesB (vs ws : List Int) : Bool := decide (vs.length ≤ 30) && vs.all voteB && allB ws vs.length weightB
theorem votesB_long {vs ws : List Int} {n : Nat} (hl : vs.length = n) (h : 30 < n) : votesB vs ws = false := by simp [votesB]; omega
theorem votesB_bad {vs ws : List Int} (h : vs.all voteB = false) : votesB vs ws = false := by simp [votesB, h]
theorem votesB_len {vs ws : List Int} {n : Nat} (hl : vs.length = n) (h : n ≤ 30) (h1 : vs.all voteB = true) : votesB vs ws = allB ws (n : Int) weightB := by
  simp only [votesB, h1, hl]; simp; omega
theorem allB_len' {zs : List Int} {n : Nat} {p : Int → Bool} (hl : zs.length = n) : allB zs (n : Int) p = zs.all p := by rw [allB_eq, hl]; simp
theorem allB_parts' {ws : List Int} {n : Nat} {p : Int → Bool} (h : allB ws (n : Int) p = true) : ws.length = n ∧ ∀ z ∈ ws, p z = true := by
  obtain ⟨h1, h2⟩ := allB_true.1 h
  exact ⟨by omega, h2⟩
/-- What valid votes and weights give. -/
theorem votesB_true {vs ws : List Int} {n : Nat} (hl : vs.length = n) (h : votesB vs ws = true) : n ≤ 30 ∧ (∀ z ∈ vs, voteB z = true) ∧ ws.length = n ∧ (∀ z ∈ ws, weightB z = true) := by
  simp only [votesB, Bool.and_eq_true, decide_eq_true_eq] at h
  obtain ⟨⟨h1, h2⟩, h3⟩ := h
  obtain ⟨h4, h5⟩ := allB_parts' h3
  exact ⟨by omega, List.all_eq_true.1 h2, by omega, h5⟩
theorem areVotes_any (A : Option Addr) (n c : Nat) (vs : List Int) (B : Option Addr) (m d : Nat) (ws : List Int) (w : World) (h : Ints .i64 w A n c vs) (k : Ints .i64 w B m d ws) :
    Calls Try.prog 70 #[.slice A n c, .slice B m d] w fun e w' => e = .returned (.bool (votesB vs ws)) ∧ Below w.heap.size w w' := by
  have hm := h.short
  have hl := Lib.hid h.1
  by_cases hn : n ≤ 30
  · cases ha : vs.all voteB
    · have R := Lib.hid (votesB_bad (ws := ws) ha)
      have HA : Hid (allB vs (n : Int) voteB = false) := (allB_len' hl.out).trans ha
      clear ha
      go_enter Try.func70, Try.ntmps70
      go_wp2_with fail
      refine (areAll_isVote A n c vs n _ h).mono ?_
      rintro e w1 ⟨rfl, hb⟩
      rw [HA.out]
      go_wp2_with fail
      go_ret
      exact ⟨ret_bool R.out.symm, hb⟩
    · have R := Lib.hid (votesB_len (ws := ws) hl.out hn ha)
      have HA : Hid (allB vs (n : Int) voteB = true) := (allB_len' hl.out).trans ha
      clear ha
      go_enter Try.func70, Try.ntmps70
      go_wp2_with fail
      refine (areAll_isVote A n c vs n _ h).mono ?_
      rintro e w1 ⟨rfl, hb⟩
      rw [HA.out]
      go_wp2_with fail
      refine (areAll_isWeight B m d ws n _ (k.below hb)).mono ?_
      rintro e w2 ⟨rfl, hb2⟩
      have hb3 := bel_trans hb hb2
      go_wp2_with fail
      go_ret
      exact ⟨ret_bool R.out.symm, hb3⟩
  · have R := Lib.hid (votesB_long (ws := ws) hl.out (by omega))
    go_enter Try.func70, Try.ntmps70
    go_wp2_with fail
    go_ret
    exact ⟨ret_bool R.out.symm, Below.refl _ _⟩

/-- One vote with its weight is counted. -/
def cntS (o : List Int) (p : Int × Int) : List Int := o.set p.1.toNat (o.getD p.1.toNat 0 + p.2)
def count (vs ws : List Int) : List Int := (vs.zip ws).foldl cntS [0, 0, 0]
/-- What holds of the counts behind k votes. -/
def CntOk (o : List Int) (k : Nat) : Prop := o.length = 3 ∧ ∀ x ∈ o, 0 ≤ x ∧ x ≤ 1000 * (k : Int)
theorem cnt_ok {vs ws : List Int} (hv : ∀ z ∈ vs, voteB z = true) (hw : ∀ z ∈ ws, weightB z = true) (k : Nat) : CntOk (foldT cntS [0, 0, 0] (vs.zip ws) k) k := by
  induction k with
  | zero => exact ⟨rfl, by simp [foldT]⟩
  | succ k ih =>
    cases h : (vs.zip ws)[k]? with
    | none =>
      have : (vs.zip ws).length ≤ k := List.getElem?_eq_none_iff.1 h
      rw [foldT_end (by omega), ← foldT_end this]
      exact ⟨ih.1, fun x hx => by have := ih.2 x hx; omega⟩
    | some p =>
      rw [foldT_succ h]
      have hp := List.mem_of_getElem? h
      have hp2 := weightB_true (hw p.2 (List.of_mem_zip hp).2)
      refine ⟨by simp [cntS, ih.1], fun x hx => ?_⟩
      rcases List.mem_or_eq_of_mem_set hx with hx | rfl
      · have := ih.2 x hx; omega
      · rw [List.getD_eq_getElem?_getD]
        cases hg : (foldT cntS [0, 0, 0] (vs.zip ws) k)[p.1.toNat]? with
        | none => simp; omega
        | some y => have := ih.2 y (List.mem_of_getElem? hg); simp; omega
theorem cnt_start (w : World) : OwnI (w.alloc (.cells #[.int .i64 0, .int .i64 0, .int .i64 0] 2)) w.heap.size (some ⟨w.heap.size, 0, none⟩) 3 3 (foldT cntS [0, 0, 0] ([] : List (Int × Int)) 0) :=
  ⟨by simpa [vals, foldT] using World.ownsRow_lit (base := w.heap.size) (e := 2) (size := 1) w #[.int .i64 0, .int .i64 0, .int .i64 0] 3 (Nat.le_refl _) (by unfold maxLen; omega) rfl, by
    intro z hz; simp [foldT] at hz; subst hz; decide⟩
theorem counted_any (A : Option Addr) (n c : Nat) (vs : List Int) (B : Option Addr) (d : Nat) (ws : List Int) (w : World) (h : Ints .i64 w A n c vs) (k : Ints .i64 w B n d ws)
    (HV : Hid (∀ z ∈ vs, voteB z = true)) (HW : Hid (∀ z ∈ ws, weightB z = true)) (hn : n ≤ 30) :
    Calls Try.prog 71 #[.slice A n c, .slice B n d] w fun e w' => ∃ g, e = .returned (.slice (some ⟨g, 0, none⟩) 3 3) ∧ OwnI w' w.heap.size (some ⟨g, 0, none⟩) 3 3 (count vs ws) ∧ Below w.heap.size w w' := by
  have hl := Lib.hid h.1
  have kl := Lib.hid k.1
  have hmk : ∀ W : World, (Instr.makeSlice 29 (.int .i64 3) (.int .i64 3)).run Try.prog W = .ok (.slice (some ⟨W.heap.size, 0, none⟩) 3 3) (W.alloc (.cells #[.int .i64 0, .int .i64 0, .int .i64 0] 2)) := fun W => by kernel_rfl
  go_enter Try.func71, Try.ntmps71
  go_wp2_with fail
  go_loopw [11] (fun i wr => ∃ j : Nat, j ≤ n ∧ i = .int .i64 j ∧ OwnI wr w.heap.size (some ⟨w.heap.size, 0, none⟩) 3 3 (foldT cntS [0, 0, 0] (vs.zip ws) j) ∧ Below w.heap.size w wr) (fun i _ => n - (intOf i).toNat)
  case atStart => exact ⟨0, Nat.zero_le _, rfl, by rw [foldT_zero]; exact cnt_start w, bel_alloc _ _⟩
  case round =>
    obtain ⟨j, hj, rfl, hown, hbel⟩ := hrel
    by_cases hlt : j < n
    · obtain ⟨b, off, z, rfl, hb, hcell, hz1, hz2, hz⟩ := (h.below hbel).at hlt
      obtain ⟨b', off', y, rfl, hb', hcell', hy1, hy2, hy⟩ := (k.below hbel).at hlt
      have bz := voteB_true (HV.out z (mem_of_at hz.out))
      have by_ := weightB_true (HW.out y (mem_of_at hy.out))
      obtain ⟨v, rfl⟩ := Int.eq_ofNat_of_zero_le bz.1
      have hok := cnt_ok HV.out HW.out j
      obtain ⟨x, hx⟩ : ∃ x, (foldT cntS [0, 0, 0] (vs.zip ws) j)[v]? = some x := ⟨_, List.getElem?_eq_getElem (by have := hok.1; omega)⟩
      have bx := hok.2 x (List.mem_of_getElem? hx)
      have hc := hown.cell hx
      have hfr := hown.free v
      have hs := Lib.hid (hown.set v (x + y) (by omega) (by omega))
      have HS : Hid (foldT cntS [0, 0, 0] (vs.zip ws) (j + 1) = (foldT cntS [0, 0, 0] (vs.zip ws) j).set v (x + y)) := by
        show _ = _
        rw [foldT_succ (zip_at hz.out hy.out), cntS, List.getD_eq_getElem?_getD]; simp [hx]
      have hv3 : v < 3 := by omega
      clear hown hok hx
      go_wp2_with fail
      go_region
      all_goals (go_wp2_with fail)
      all_goals
        go_roundw
        case rel => exact ⟨j + 1, by omega, by go_num, by rw [HS.out]; exact hs.out.1, (hbel.setCell (Nat.le_refl _) _).drew⟩
        case measure => simp [intOf]; omega
    · go_wp2_with fail
      go_ret
      exact ⟨_, rfl, by rwa [foldT_end (by rw [List.length_zip, hl.out]; omega)] at hown, hbel⟩

def openV (vs ws : List Int) : List Int := if votesB vs ws then count vs ws else []
def adopt (vs ws : List Int) : Bool := decide ((count vs ws).getD 0 0 < (count vs ws).getD 1 0)
def adoptV (vs ws : List Int) : Bool := votesB vs ws && adopt vs ws
theorem openV_no {vs ws : List Int} (h : votesB vs ws = false) : openV vs ws = [] := by simp [openV, h]
theorem openV_yes {vs ws : List Int} (h : votesB vs ws = true) : openV vs ws = count vs ws := by simp [openV, h]
theorem adoptV_no {vs ws : List Int} (h : votesB vs ws = false) : adoptV vs ws = false := by simp [adoptV, h]
theorem adoptV_yes {vs ws : List Int} (h : votesB vs ws = true) : adoptV vs ws = adopt vs ws := by simp [adoptV, h]
theorem count_length {vs ws : List Int} (hv : ∀ z ∈ vs, voteB z = true) (hw : ∀ z ∈ ws, weightB z = true) : (count vs ws).length = 3 := by
  have := (cnt_ok hv hw (vs.zip ws).length).1
  rwa [foldT_end (Nat.le_refl _)] at this
theorem openV_len (vs ws : List Int) : (openV vs ws).length ≤ 3 := by
  cases h : votesB vs ws
  · rw [openV_no h]; simp
  · obtain ⟨_, g2, _, g4⟩ := votesB_true rfl h
    rw [openV_yes h, count_length g2 g4]; exact Nat.le_refl _
theorem implOpenCount_any (A : Option Addr) (n c : Nat) (vs : List Int) (B : Option Addr) (m d : Nat) (ws : List Int) (w : World) (h : Ints .i64 w A n c vs) (k : Ints .i64 w B m d ws) :
    Calls Try.prog 29 #[.slice A n c, .slice B m d] w (GivesI (openV vs ws) (votesB vs ws) w) := by
  have hl := Lib.hid h.1
  have kl := Lib.hid k.1
  cases hv : votesB vs ws
  · have HV := Lib.hid hv
    have R := Lib.hid (openV_no hv)
    clear hv
    go_enter Try.func29, Try.ntmps29
    go_wp2_with fail
    refine (areVotes_any A n c vs B m d ws _ h k).mono ?_
    rintro e w1 ⟨rfl, hb⟩
    rw [HV.out]
    go_wp2_with fail
    go_ret2
    exact ⟨none, 0, by rw [R.out]; rfl, by rw [R.out]; exact ownI_nil _ _, hb⟩
  · have HV := Lib.hid hv
    have R := Lib.hid (openV_yes hv)
    obtain ⟨g1, g2, g3, g4⟩ := votesB_true hl.out hv
    obtain rfl : m = n := kl.out.symm.trans g3
    have G2 := Lib.hid g2
    have G4 := Lib.hid g4
    have L3 := Lib.hid (count_length g2 g4)
    clear hv g2 g3 g4
    go_enter Try.func29, Try.ntmps29
    go_wp2_with fail
    refine (areVotes_any A m c vs B m d ws _ h k).mono ?_
    rintro e w1 ⟨rfl, hb⟩
    rw [HV.out]
    go_wp2_with fail
    refine (counted_any A m c vs B d ws _ (h.below hb) (k.below hb) G2 G4 g1).mono ?_
    rintro e w2 ⟨g, rfl, ho, hb2⟩
    go_wp2_with fail
    go_ret2
    exact ⟨some ⟨g, 0, none⟩, 3, by rw [R.out, L3.out]; rfl, by rw [R.out, L3.out]; exact ho.mono hb.size, bel_trans hb hb2⟩
end Go.Proofs.Ytnjnngnagdhaiaa
