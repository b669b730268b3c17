/- The lists of three exponents; the model's SealBallot, whole. -/
import Derived.Test.YtnjnngnagdhaiaaRws
import Derived.Test.YtnjnngnagdhaiaaAreAll
import Derived.Test.YtnjnngnagdhaiaaSpecMake
namespace Go.Proofs.Ytnjnngnagdhaiaa
set_option linter.unusedVariables false
set_option maxRecDepth 100000
open Go.RowKit
def rowsE (kss : List (List Int)) : Bool := kss.all fun l => allB l 3 expB
theorem l09ListsE_any (B : Option Addr) (m d : Nat) (kss : List (List Int)) (q : Int) (w : World) (h : Rws w B m d kss) :
    Calls Try.prog 82 #[.slice B m d, .int .i64 q] w fun e w' => e = .returned (.bool (rowsE kss && ((m : Int) == q))) ∧ w = w' := by
  have hm := h.short
  have hl := Lib.hid h.1
  go_enter Try.func82, Try.ntmps82
  go_wp2_with fail
  go_loop [5] (fun i => ∃ k : Nat, k ≤ m ∧ i = .int .i64 k ∧ rowsE (kss.take k) = true) (fun i => m - (intOf i).toNat)
  case atStart => exact ⟨0, Nat.zero_le _, rfl, rfl⟩
  case round =>
    obtain ⟨k, hk, rfl, hall⟩ := hrel
    have H := Lib.hid hall
    clear hall
    by_cases hlt : k < m
    · obtain ⟨b, off, A', n', c', zs, rfl, hb, hcell, hi, hz⟩ := h.at hlt
      have EX := Lib.hid (l09Exponents_any A' n' c' zs 3 w hi)
      clear hi
      cases hp : allB zs 3 expB
      · have HP := Lib.hid hp
        clear hp
        go_wp2_with fail
        refine EX.out.mono ?_
        rintro e w1 ⟨rfl, rfl⟩
        rw [HP.out]
        go_wp2_with fail
        go_ret
        exact ⟨ret_bool (by rw [show rowsE kss = false from all_stop hz.out HP.out]; rfl), rfl⟩
      · have HP := Lib.hid hp
        clear hp
        go_wp2_with fail
        refine EX.out.mono ?_
        rintro e w1 ⟨rfl, rfl⟩
        rw [HP.out]
        go_wp2_with fail
        go_round
        case rel => exact ⟨k + 1, by omega, by go_num, all_next (p := fun l => allB l 3 expB) hz.out H.out HP.out⟩
        case measure => simp [intOf]; omega
    · have HA : Hid (rowsE kss = true) := all_end (p := fun l => allB l 3 expB) (by rw [hl.out]; omega) H.out
      go_wp2_with fail
      go_ret
      exact ⟨ret_bool (by rw [HA.out]; rfl), rfl⟩
theorem slB_eq (vote : Int) (ks : List Int) (nss : List (List Int)) : slB vote ks nss = (voteB vote && allB ks 3 expB && (rowsE nss && ((nss.length : Int) == 3))) := by
  unfold slB voteB rowsE
  rw [Bool.and_comm (decide (nss.length = 3))]
  congr 2
  by_cases h : nss.length = 3
  · simp [h]
  · simp [h]; omega
theorem givesSB_bad {vote : Int} {ks : List Int} {nss : List (List Int)} {w w' : World} (h : slB vote ks nss = false) (hb : Below w.heap.size w w') :
    GivesSB (slV vote ks nss) (slB vote ks nss) w (.returned (.tuple #[.agg #[.slice none 0 0, .slice none 0 0, .int .i64 0], .bool false])) w' := by
  unfold slV
  rw [h]
  exact ⟨none, 0, none, 0, [], rfl, pb_nil _ _, hb⟩
set_option maxHeartbeats 1000000 in
theorem specSealBallot_any (vote : Int) (v0 : -9223372036854775808 ≤ vote) (v1 : vote ≤ 9223372036854775807) (A : Option Addr) (n c : Nat) (ks : List Int) (C : Option Addr) (m f : Nat) (nss : List (List Int)) (w : World) (hk : Ints .i64 w A n c ks) (hn : Rws w C m f nss) :
    Calls Try.prog 39 #[.int .i64 vote, .slice A n c, .slice C m f] w (GivesSB (slV vote ks nss) (slB vote ks nss) w) := by
  have b0 := bel_alloc w (.cells [.slice none 0 0, .slice none 0 0, .int .i64 0].toArray 48)
  have C0 := Cs.new w [.slice none 0 0, .slice none 0 0, .int .i64 0] 48
  have q0z := C0.cell 0 rfl
  have q1z := C0.cell 1 rfl
  have q2z := C0.cell 2 rfl
  have f0z := C0.free 0 rfl
  have f1z := C0.free 1 rfl
  have f2z := C0.free 2 rfl
  have ltz := C0.1
  have k3 := hk.short
  have n3 := hn.short
  have E := slB_eq vote ks nss
  rw [hn.1] at E
  cases hb : voteB vote
  · have R : Hid (slB vote ks nss = false) := by show _ = _; rw [E, hb]; rfl
    have HB := Lib.hid hb
    clear hb E
    go_enter Try.func39, Try.ntmps39
    go_wp2_with fail
    refine (l09Vote_any _ _).mono ?_
    rintro e w' ⟨rfl, rfl⟩
    rw [HB.out]
    go_wp2_with fail
    exact bodyPost_ret (v := .tuple #[.agg #[.slice none 0 0, .slice none 0 0, .int .i64 0], .bool false]) (by simp [results, Try.results39, go_sem]) rfl (givesSB_bad R.out b0)
  · cases hz : allB ks 3 expB
    · have R : Hid (slB vote ks nss = false) := by show _ = _; rw [E, hz]; simp
      have HB := Lib.hid hb
      have HZ := Lib.hid hz
      clear hb hz E
      go_enter Try.func39, Try.ntmps39
      go_wp2_with fail
      refine (l09Vote_any _ _).mono ?_
      rintro e w' ⟨rfl, rfl⟩
      rw [HB.out]
      go_wp2_with fail
      refine (l09Exponents_any _ n c ks 3 _ (hk.below b0)).mono ?_
      rintro e w1 ⟨rfl, rfl⟩
      rw [HZ.out]
      go_wp2_with fail
      exact bodyPost_ret (v := .tuple #[.agg #[.slice none 0 0, .slice none 0 0, .int .i64 0], .bool false]) (by simp [results, Try.results39, go_sem]) rfl (givesSB_bad R.out b0)
    · cases hl : (rowsE nss && ((m : Int) == 3))
      · have R : Hid (slB vote ks nss = false) := by show _ = _; rw [E, hl]; simp
        have HB := Lib.hid hb
        have HZ := Lib.hid hz
        have HL := Lib.hid hl
        clear hb hz hl E
        go_enter Try.func39, Try.ntmps39
        go_wp2_with fail
        refine (l09Vote_any _ _).mono ?_
        rintro e w' ⟨rfl, rfl⟩
        rw [HB.out]
        go_wp2_with fail
        refine (l09Exponents_any _ n c ks 3 _ (hk.below b0)).mono ?_
        rintro e w1 ⟨rfl, rfl⟩
        rw [HZ.out]
        go_wp2_with fail
        refine (l09ListsE_any _ m f nss 3 _ (hn.below b0)).mono ?_
        rintro e w1 ⟨rfl, rfl⟩
        rw [HL.out]
        go_wp2_with fail
        exact bodyPost_ret (v := .tuple #[.agg #[.slice none 0 0, .slice none 0 0, .int .i64 0], .bool false]) (by simp [results, Try.results39, go_sem]) rfl (givesSB_bad R.out b0)
      · have R : slB vote ks nss = true := by rw [E, hb, hz, hl]; rfl
        have n3 : n = 3 := by have h1 := hk.1; have h2 := (allB_true.1 hz).1; omega
        have m3 : m = 3 := by have := (Bool.and_eq_true _ _ ▸ hl).2; simp at this; omega
        subst n3 m3
        have EV : Hid (slV vote ks nss = (slS vote ks 3, slP vote ks nss 3, slK ks 3)) := by show _ = _; simp [slV, R]
        have MK := Lib.hid (l09Make_any vote v0 v1 A c ks C f nss _ (hk.below b0) (hn.below b0) R)
        have HR := Lib.hid R
        have HB := Lib.hid hb
        have HZ := Lib.hid hz
        have HL := Lib.hid hl
        have sz0 : (w.alloc (.cells [.slice none 0 0, .slice none 0 0, .int .i64 0].toArray 48)).heap.size = w.heap.size + 1 := by simp
        clear hb hz hl E R
        go_enter Try.func39, Try.ntmps39
        go_wp2_with fail
        refine (l09Vote_any _ _).mono ?_
        rintro e w' ⟨rfl, rfl⟩
        rw [HB.out]
        go_wp2_with fail
        refine (l09Exponents_any _ 3 c ks 3 _ (hk.below b0)).mono ?_
        rintro e w1 ⟨rfl, rfl⟩
        rw [HZ.out]
        go_wp2_with fail
        refine (l09ListsE_any _ 3 f nss 3 _ (hn.below b0)).mono ?_
        rintro e w1 ⟨rfl, rfl⟩
        rw [HL.out]
        go_wp2_with fail
        refine MK.out.mono ?_
        rintro e w1 ⟨A1, c1, B1, d1, hv, rfl, P1, b1⟩
        rw [sz0] at P1
        have D0 := C0.below b1
        have q0a := D0.cell 0 rfl
        have q1a := D0.cell 1 rfl
        have q2a := D0.cell 2 rfl
        have f0a := D0.free 0 rfl
        have f1a := D0.free 1 rfl
        have f2a := D0.free 2 rfl
        have lta := D0.1
        have bb1 := bel_trans b0 b1
        have PH := Lib.hid P1
        clear P1
        obtain ⟨key, hkey⟩ : ∃ r, slK ks 3 = r := ⟨_, rfl⟩
        rw [hkey] at EV ⊢
        clear hkey
        go_wp2_with fail
        have G := ((bb1.setCell (p := ⟨w.heap.size, 0, none⟩) (Nat.le_refl _) (.slice A1 3 c1)).setCell (p := ⟨w.heap.size, 1, none⟩) (Nat.le_refl _) (.slice B1 3 d1)).setCell (p := ⟨w.heap.size, 2, none⟩) (Nat.le_refl _) (.int .i64 key)
        have PF := (((PH.out.far (g' := w.heap.size) (by omega) 0 (.slice A1 3 c1)).far (g' := w.heap.size) (by omega) 1 (.slice B1 3 d1)).far (g' := w.heap.size) (by omega) 2 (.int .i64 key)).mono (b2 := w.heap.size) (by omega)
        have D := ((D0.set 0 (.slice A1 3 c1) (by simp)).set 1 (.slice B1 3 d1) (by simp)).set 2 (.int .i64 key) (by simp)
        obtain ⟨w9, hw9⟩ : ∃ w9, ((w1.setCell ⟨w.heap.size, 0, none⟩ (.slice A1 3 c1)).setCell ⟨w.heap.size, 1, none⟩ (.slice B1 3 d1)).setCell ⟨w.heap.size, 2, none⟩ (.int .i64 key) = w9 := ⟨_, rfl⟩
        rw [hw9] at PF D G ⊢
        have y0 := D.cell 0 (v := .slice A1 3 c1) (by simp)
        have y1 := D.cell 1 (v := .slice B1 3 d1) (by simp)
        have y2 := D.cell 2 (v := .int .i64 key) (by simp)
        refine bodyPost_ret (v := .tuple #[.agg #[.slice A1 3 c1, .slice B1 3 d1, .int .i64 key], .bool true]) (by simp [results, Try.results39, go_sem, y0, y1, y2]) rfl ?_
        rw [EV.out, HR.out]
        have l1 : (slS vote ks 3).length = 3 := by simp [slS]
        have l2 : (slP vote ks nss 3).length = 3 := by simp [slP]
        exact ⟨A1, c1, B1, d1, hv, by simp only [l1, l2], by simp only [l1, l2]; exact PF, G⟩
end Go.Proofs.Ytnjnngnagdhaiaa
