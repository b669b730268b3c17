/- The law FnSources, walked. -/
import Derived.Test.YtcoladhppbknnaaAc8
namespace Go.Proofs.Ytcoladhppbknnaa
set_option linter.unusedVariables false
set_option linter.unusedSimpArgs false
set_option maxRecDepth 100000
open Go.RowKit Go.Deep
def GotA (w : World) (e : Ending) (w' : World) : Prop :=
  ∃ (s : List Ar) (A : Option Addr) (L c : Nat) (es : List Ac) (B : Option Addr) (M d : Nat), e = .returned (.tuple #[.slice A L c, .slice B M d]) ∧ SOk s ∧ s.length ≤ 8 ∧ fnd s 98 = ByteArray.empty ∧ acB es = true ∧ (∀ a ∈ es, ∀ e ∈ a.p, e.id ≠ 98) ∧ Ars w' A L c s ∧ Acs w' B M d es ∧ Below w.heap.size w w'
theorem sta_def : SOk [⟨1, ⟨#[97]⟩⟩] := ⟨List.pairwise_singleton _ _, by intro a ha; rw [List.mem_singleton] at ha; subst ha; decide, by intro a ha; rw [List.mem_singleton] at ha; subst ha; decide⟩
set_option maxHeartbeats 1000000 in
theorem b10Acts_any (An : Option Addr) (nn cn : Nat) (bs : List Int) (w : World) (h : Ints .u8 w An nn cn bs) :
    Calls Try.prog 31 #[.slice An nn cn] w (GotA w) := by
  go_enter Try.func31, Try.ntmps31
  go_wp2_with fail
  refine (l00From_any An nn cn bs _ h).mono ?_
  rintro e w1 ⟨g, rfl, hg, hs, hb⟩
  have B1 := Lib.hid hb
  clear hb h
  go_wp2_with fail
  refine (l07DrawActs_any g An nn cn bs w1 hs).mono ?_
  rintro e w2 ⟨s, A, L, c, es, B, M, d, k2, rfl, hsd, ha, hac, _, hg2⟩
  have B2 := Lib.hid (B1.out.grown hg2 B1.out.size (fun r hr => by injection hr with hr; omega))
  have SDs := Lib.hid hsd
  have HA := Lib.hid (ha.ars' hsd.ok)
  have HB := Lib.hid hac.acs
  have H98 := Lib.hid (show ∀ a ∈ es, ∀ e ∈ a.p, e.id ≠ 98 from fun a ha e he => ((hac.2 a ha).p98 e he).2)
  have BO := Lib.hid (l07Both_any A L c s B M d es w2 HA.out HB.out)
  rw [staB_of hsd.ok hsd.len, Bool.true_and] at BO
  clear hs ha hac hg2 hsd
  go_wp2_with fail
  refine BO.out.mono ?_
  rintro e w3 ⟨rfl, b3⟩
  have B3 := Lib.hid (bel_trans B2.out b3)
  have A3 := Lib.hid (HA.out.below b3)
  have C3 := Lib.hid (HB.out.below b3)
  clear b3 BO HA HB
  cases hv : acB es
  · have b4 := bel_alloc w3 (.cells #[.int .i64 1, .string ⟨#[97]⟩] 70)
    have b5 := bel_alloc (w3.alloc (.cells #[.int .i64 1, .string ⟨#[97]⟩] 70)) (.cells #[] 72)
    have R4 := Lib.hid (show Ars _ (some ⟨w3.heap.size, 0, none⟩) 1 1 [⟨1, ⟨#[97]⟩⟩] from Ars.below (OwnR.ars (es := [⟨1, ⟨#[97]⟩⟩]) (ownR_lits (t := 70) (s := 2) (rs := [[.int .i64 1, .string ⟨#[97]⟩]]) w3 (by simp) (by unfold maxLen; simp)) sta_def.ok) b5)
    have R5 := Lib.hid (acsO_lit (w3.alloc (.cells #[.int .i64 1, .string ⟨#[97]⟩] 70))).acs
    have B5 := Lib.hid (bel_trans B3.out (bel_trans b4 b5))
    clear b4 b5 hv
    go_wp2_with fail
    exact bodyPost_ret (v := .tuple #[.slice (some ⟨w3.heap.size, 0, none⟩) 1 1, .slice (some ⟨w3.heap.size + 1, 0, none⟩) 0 0]) (by simp [results, Try.results31, go_sem]) rfl ⟨_, _, _, _, [], _, _, _, rfl, sta_def, by simp, fnd_none (by simp), by decide, by simp, R4.out, by simpa using R5.out, B5.out⟩
  · have V := Lib.hid hv
    clear hv
    go_wp2_with fail
    exact bodyPost_ret (v := .tuple #[.slice A L c, .slice B M d]) (by simp [results, Try.results31, go_sem]) rfl ⟨s, A, L, c, es, B, M, d, rfl, SDs.out.ok, SDs.out.len, fnd_none (fun a ha => by have := SDs.out.ids a ha; omega), V.out, H98.out, A3.out, C3.out, B3.out⟩
end Go.Proofs.Ytcoladhppbknnaa
