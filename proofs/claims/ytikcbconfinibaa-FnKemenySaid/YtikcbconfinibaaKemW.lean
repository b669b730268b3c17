/- The search over all rankings, walked. -/
import Derived.Test.YtikcbconfinibaaKemK
namespace Go.Proofs.Ytikcbconfinibaa
set_option linter.unusedVariables false
set_option linter.unusedSimpArgs false
set_option maxRecDepth 100000
open Go.RowKit Go.Deep
def cloV (g1 g : Nat) : Value := .func (.func 38) #[] #[.pointer (some ⟨g1, 0, none⟩), .pointer (some ⟨g - 1, 0, none⟩), .pointer (some ⟨g, 0, none⟩), .pointer (some ⟨g + 1, 0, none⟩), .pointer (some ⟨g + 2, 0, none⟩)]
theorem BS.put {P : Nat → Nat → Int} {n g : Nat} {w : World} {u0 u1 : Value} (c1 : w.cell? ⟨g, 0, none⟩ = some u0) (c2 : w.cell? ⟨g + 1, 0, none⟩ = some u1) (f1 : w.frozen? ⟨g, 0, none⟩ = false) (f2 : w.frozen? ⟨g + 1, 0, none⟩ = false) (hs : g + 1 < w.heap.size)
    {b c : Nat} {q : List Nat} (o : OwnI w (g + 2) (some ⟨b, 0, none⟩) n c (zr q)) {D : Int} (hD : dis P q = D) :
    BS P n g ((w.setCell ⟨g, 0, none⟩ (.slice (some ⟨b, 0, none⟩) n c)).setCell ⟨g + 1, 0, none⟩ (.int .i64 D)) (some q) := by
  have key : ∀ (W : World) (x y : Nat) (u : Value), x ≠ y → (W.setCell ⟨y, 0, none⟩ u).cell? ⟨x, 0, none⟩ = W.cell? ⟨x, 0, none⟩ := fun W x y u h => World.cell?_setCell_other _ _ _ _ (fun e => h (by injection e with e; exact e.symm))
  refine ⟨b, c, ?_, (o.onlyK (onlyK w g 0 _) (by omega)).onlyK (onlyK _ (g + 1) 0 _) (by omega), ?_, by rw [World.frozen?_setCell, World.frozen?_setCell]; exact f1, by rw [World.frozen?_setCell, World.frozen?_setCell]; exact f2, by simpa [World.setCell] using hs⟩
  · rw [key _ _ _ _ (by omega)]
    exact World.cell?_setCell_same _ _ _ c1
  · rw [hD]
    exact World.cell?_setCell_same _ _ _ ((key _ _ _ _ (by omega)).trans c2)
theorem only2 (w : World) (g : Nat) (u v : Value) : Only g (g + 2) w ((w.setCell ⟨g, 0, none⟩ u).setCell ⟨g + 1, 0, none⟩ v) :=
  ((onlyK w g 0 u).widen (Nat.le_refl _) (by omega)).trans ((onlyK _ (g + 1) 0 v).widen (by omega) (by omega))
set_option maxHeartbeats 1000000 in
theorem place_leaf (n : Nat) (rs : List (List Nat)) (ws : List Int) (ok : PrOk n rs ws) (RA : Option Addr) (rc : Nat) (WA : Option Addr) (wc g g1 gP cP : Nat) (vs : List Value) (f : Value) (bg : List Nat) (hp : bg.Perm (List.range n)) (A : Option Addr) (c : Nat) (st : Option (List Nat)) (w : World)
    (E : Env (prs (rs.zip ws)) n g rs ws RA rc WA wc g1 gP cP vs f w) (O : OwnI w (g + 2) A bg.length c (zr bg)) (B : BS (prs (rs.zip ws)) n g w st) :
    Calls Try.prog 38 #[.slice A bg.length c, .pointer (some ⟨g1, 0, none⟩), .pointer (some ⟨g - 1, 0, none⟩), .pointer (some ⟨g, 0, none⟩), .pointer (some ⟨g + 1, 0, none⟩), .pointer (some ⟨g + 2, 0, none⟩)] w
      fun e w' => e = .returned (.tuple #[]) ∧ ∃ st', BS (prs (rs.zip ws)) n g w' st' ∧ Res (prs (rs.zip ws)) n bg st st' ∧ Only g (g + 2) w w' := by
  have NE : ∀ (a : Option Addr) (n c n' c' : Nat) (W : World), (binOp .eql 25 (.slice a n c) (.slice none n' c')).run Try.prog W = .ok (.bool a.isNone) W := fun a n c n' c' W => Lib.run_eql_slice_nil W 25 2 a n c n' c' Try.underlying25
  have hl : bg.length = n := by have := hp.length_eq; simpa using this
  have HE := Lib.hid E
  have HO := Lib.hid O
  have HB := Lib.hid B
  have OKP := Lib.hid ok
  have n6 := ok.n6
  clear E O B ok
  rw [hl] at HO
  rw [hl]
  have y0 := HE.out.box.cell 0 rfl
  have y1 := HE.out.box.cell 1 rfl
  obtain ⟨w0, hb0, hg0, hpv⟩ := HE.out.base
  have PV := Lib.hid (hpv.below hb0)
  clear hb0 hg0 hpv
  have en : ((n : Int) == (n : Int)) = true := by simp
  go_enter Try.func38, Try.ntmps38
  go_wp2_with fail
  refine (options_ok n rs ws OKP.out RA rc WA wc _ PV.out).mono ?_
  rintro e w1 ⟨rfl, b1⟩
  replace HE := Lib.hid (HE.out.below b1)
  replace HO := Lib.hid (HO.out.below b1)
  replace HB := Lib.hid (HB.out.below b1)
  have B1 := Lib.hid b1
  clear b1 y0 y1 PV
  have y5 := HE.out.pairs.cell 0 rfl
  go_wp2_with fail
  obtain ⟨lo, hmr⟩ := HE.out.mat
  have DI := Lib.hid (fun hM hI => disagreement_ok n n6 (prs (rs.zip ws)) (prs_all OKP.out) bg (fun x hx => List.mem_range.1 (hp.mem_iff.1 hx)) (by omega) gP cP lo vs A c w1 hM hI)
  rw [hl] at DI
  refine (DI.out hmr.own HO.out.ints).mono ?_
  rintro e w2 ⟨rfl, rfl⟩
  obtain ⟨D, hD⟩ : ∃ x, dis (prs (rs.zip ws)) bg = x := ⟨_, rfl⟩
  rw [hD]
  have HD := Lib.hid hD
  clear hD y5 hmr DI
  have sz : g + 2 ≤ w1.heap.size := by
    have := HB.out
    cases st with
    | none => have := this.2.2.2.2; omega
    | some q => obtain ⟨_, _, _, _, _, _, _, h5⟩ := this; omega
  cases st with
  | none =>
    have n1 := OKP.out.n1
    obtain ⟨c1, c2, f1, f2, s1⟩ := HB.out
    go_wp2_with fail
    refine (clone64_any A n c (zr bg) w1 HO.out.ints (by omega)).mono ?_
    rintro e w2 ⟨A', c', rfl, o2, b2⟩
    obtain ⟨b, rfl, hb1, hb2⟩ := o2.form (by omega)
    obtain ⟨c3, c4, f3, f4, s3⟩ := HB.out.below b2
    have O2 := Lib.hid (o2.mono (b2 := g + 2) sz)
    have B2 := Lib.hid (bel_trans B1.out b2)
    clear c1 c2 f1 f2 s1 o2 b2
    go_wp2_with fail
    exact bodyPost_ret (v := .tuple #[]) (by simp [results, Try.results38, go_sem]) rfl ⟨rfl, some bg, BS.put c3 c4 f3 f4 s3 O2.out HD.out, Res.leaf0 hp, (Only.of_below B2.out g (g + 2)).trans (only2 w2 g _ _)⟩
  | some q0 =>
    have n1 := OKP.out.n1
    obtain ⟨bq, cq, c1, oq, c2, f1, f2, s1⟩ := HB.out
    by_cases hlt : D < dis (prs (rs.zip ws)) q0
    · have hlt2 : dis (prs (rs.zip ws)) bg < dis (prs (rs.zip ws)) q0 := by rw [HD.out]; exact hlt
      have d1 := decide_eq_true hlt
      have RES := Lib.hid (Res.leaf1 (n := n) hp hlt2)
      obtain ⟨y, hy⟩ : ∃ x, dis (prs (rs.zip ws)) q0 = x := ⟨_, rfl⟩
      rw [hy] at c2 d1
      clear oq hlt hlt2 hy
      go_wp2_with fail
      refine (clone64_any A n c (zr bg) w1 HO.out.ints (by omega)).mono ?_
      rintro e w2 ⟨A', c', rfl, o2, b2⟩
      obtain ⟨b, rfl, hb1, hb2⟩ := o2.form (by omega)
      obtain ⟨b3, cq3, c3, _, c4, f3, f4, s3⟩ := HB.out.below b2
      have O2 := Lib.hid (o2.mono (b2 := g + 2) sz)
      have B2 := Lib.hid (bel_trans B1.out b2)
      clear c1 c2 f1 f2 s1 o2 b2 d1
      go_wp2_with fail
      exact bodyPost_ret (v := .tuple #[]) (by simp [results, Try.results38, go_sem]) rfl ⟨rfl, some bg, BS.put c3 c4 f3 f4 s3 O2.out HD.out, RES.out, (Only.of_below B2.out g (g + 2)).trans (only2 w2 g _ _)⟩
    · have hlt2 : ¬ dis (prs (rs.zip ws)) bg < dis (prs (rs.zip ws)) q0 := by rw [HD.out]; exact hlt
      have d1 := decide_eq_false hlt
      have RES := Lib.hid (Res.leaf2 (n := n) hp hlt2)
      obtain ⟨y, hy⟩ : ∃ x, dis (prs (rs.zip ws)) q0 = x := ⟨_, rfl⟩
      rw [hy] at c2 d1
      clear oq hlt hlt2 hy
      go_wp2_with fail
      exact bodyPost_ret (v := .tuple #[]) (by simp [results, Try.results38, go_sem]) rfl ⟨rfl, some q0, HB.out, RES.out, Only.of_below B1.out g (g + 2)⟩
end Go.Proofs.Ytikcbconfinibaa
