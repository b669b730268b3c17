/- A discussion, as the reference leads it. -/
import Derived.Test.YteejfjgofpolkaaSpStr
import Derived.Test.YteejfjgofpolkaaStepApp
namespace Go.Proofs.Yteejfjgofpolkaa
set_option linter.unusedVariables false
set_option linter.unusedSimpArgs false
set_option maxRecDepth 100000
open Go.RowKit Go.Deep
theorem discS_no (cnt : Int) (hc1 : -9223372036854775808 ≤ cnt) (hc2 : cnt ≤ 9223372036854775807) (x : Int) (rows : List (List Int)) (hv : (frB cnt rows && inR x 0 (cnt - 1)) = false) (A : Option Addr) (m c : Nat) (RA : Option Addr) (nr rc : Nat) (YA : Option Addr) (ny yc : Nat) (v3 : Value) (w : World) (h : Rws w A m c rows) :
    Calls Try.prog 18 #[.agg #[.int .i64 cnt, .slice A m c], .int .i64 x, .agg #[(.slice RA nr rc), (.slice YA ny yc)], v3] w fun e w' => e = .returned (.tuple #[.slice none 0 0, .bool false]) ∧ Below w.heap.size w w' := by
  have a0 := bel_alloc w (.cells #[.int .i64 cnt, .slice A m c] 26)
  have C00 := Cs.new w [.int .i64 cnt, .slice A m c] 26
  have a1 := bel_alloc (w.alloc (.cells #[.int .i64 cnt, .slice A m c] 26)) (.cells #[(.slice RA nr rc), (.slice YA ny yc)] 39)
  have D00 := Cs.new (w.alloc (.cells #[.int .i64 cnt, .slice A m c] 26)) [(.slice RA nr rc), (.slice YA ny yc)] 39
  rw [show (w.alloc (.cells #[.int .i64 cnt, .slice A m c] 26)).heap.size = w.heap.size + 1 by simp] at D00
  have b0 := bel_trans a0 a1
  have C0 := C00.below a1
  have y0 := C0.cell 0 rfl
  have y1 := C0.cell 1 rfl
  have x0 := D00.cell 0 rfl
  have x1 := D00.cell 1 rfl
  have V := Lib.hid (spStr_no cnt rows x hv w.heap.size (w.heap.size + 1) A m c RA nr rc YA ny yc _ C0 D00 (h.below b0))
  have B0 := Lib.hid b0
  clear h C0 b0 hv a0 a1 C00 D00
  go_enter Try.func18, Try.ntmps18
  go_wp2_with fail
  refine V.out.mono ?_
  rintro e w1 ⟨rfl, b1⟩
  have B1 := Lib.hid (bel_trans B0.out b1)
  clear b1
  go_wp2_with fail
  exact bodyPost_ret (v := .tuple #[.slice none 0 0, .bool false]) (by simp [results, Try.results18, go_sem]) rfl ⟨rfl, B1.out⟩
set_option maxHeartbeats 4000000 in
theorem discS_ok (n : Nat) (es : List (Nat × Nat)) (ok : FrOk n es) (a : Nat) (ha : a < n) (hv : (frB n (es.map erow) && inR a 0 ((n : Int) - 1)) = true) (A : Option Addr) (m c : Nat) (RA : Option Addr) (nr rc : Nat) (R : List Int) (YA : Option Addr) (ny yc : Nat) (Y : List Int) (MA : Option Addr) (mc : Nat) (M : List Int) (w : World) (h : Rws w A m c (es.map erow)) (hR : Ints .i64 w RA nr rc R) (hY : Ints .i64 w YA ny yc Y) (hM : Ints .i64 w MA M.length mc M) :
    Calls Try.prog 18 #[.agg #[.int .i64 n, .slice A m c], .int .i64 a, .agg #[.slice RA nr rc, .slice YA ny yc], .slice MA M.length mc] w (DiscE n es a R Y M w) := by
  have a0 := bel_alloc w (.cells #[.int .i64 n, .slice A m c] 26)
  have C00 := Cs.new w [.int .i64 n, .slice A m c] 26
  have a1 := bel_alloc (w.alloc (.cells #[.int .i64 n, .slice A m c] 26)) (.cells #[.slice RA nr rc, .slice YA ny yc] 39)
  have D00 := Cs.new (w.alloc (.cells #[.int .i64 n, .slice A m c] 26)) [.slice RA nr rc, .slice YA ny yc] 39
  rw [show (w.alloc (.cells #[.int .i64 n, .slice A m c] 26)).heap.size = w.heap.size + 1 by simp] at D00
  have b0 := bel_trans a0 a1
  have C0 := C00.below a1
  have y0 := C0.cell 0 rfl
  have y1 := C0.cell 1 rfl
  have x0 := D00.cell 0 rfl
  have x1 := D00.cell 1 rfl
  have n10 := ok.n10
  have V := Lib.hid (spStr_ok n es ok a ha hv w.heap.size (w.heap.size + 1) A m c RA nr rc R YA ny yc Y _ C0 D00 (h.below b0) (hR.below b0) (hY.below b0))
  have OK := Lib.hid ok
  have FB := Lib.hid (frB_of ok)
  have H := Lib.hid h
  have HY := Lib.hid hY
  have HM := Lib.hid hM
  have HC := Lib.hid C0
  have HD := Lib.hid D00
  have B0 := Lib.hid b0
  have ms := hM.short
  have NOE := Lib.hid (fun (e : Ending) (w' : World) (hn : ¬ DiscP n es a R Y M) (he : e = .returned (.tuple #[.slice none 0 0, .bool false])) (hb : Below w.heap.size w w') => (show DiscE n es a R Y M w e w' from ⟨[], false, none, 0, fun hp => absurd hp hn, fun _ => ⟨rfl, rfl⟩, he, ownI_nil _ _, hb⟩))
  clear h hR hY hM C0 D00 b0 hv a0 a1 C00 ok y0 y1 x0 x1
  go_enter Try.func18, Try.ntmps18
  go_wp2_with fail
  refine V.out.mono ?_
  rintro e w1 ⟨v, rfl, hs, b1⟩
  have B1 := Lib.hid (bel_trans B0.out b1)
  have C1 := Lib.hid (HC.out.below b1)
  have D1 := Lib.hid (HD.out.below b1)
  have HS := Lib.hid hs
  clear hs b1 V
  cases v
  · have N := Lib.hid (show ¬ DiscP n es a R Y M from fun p => by have := HS.out.2 p.str; exact absurd this (by simp))
    clear HS
    go_wp2_with fail
    exact bodyPost_ret (v := .tuple #[.slice none 0 0, .bool false]) (by simp [results, Try.results18, go_sem]) rfl (NOE.out _ _ N.out rfl B1.out)
  · have ST := Lib.hid (HS.out.1 rfl)
    clear HS
    by_cases hm10 : 10 < M.length
    · have N := Lib.hid (show ¬ DiscP n es a R Y M from fun p => by have := p.len; omega)
      have d0 := decide_eq_true (show (10 : Int) < (M.length : Int) by omega)
      go_wp2_with fail
      exact bodyPost_ret (v := .tuple #[.slice none 0 0, .bool false]) (by simp [results, Try.results18, go_sem]) rfl (NOE.out _ _ N.out rfl B1.out)
    · have d0 := decide_eq_false (show ¬ (10 : Int) < (M.length : Int) by omega)
      go_wp2_with fail
      refine (l08Of_ok n es OK.out w.heap.size A m c _ C1.out (H.out.below B1.out)).mono ?_
      rintro e w3 ⟨gG, rfl, hg, b3⟩
      obtain ⟨gA, gd, gB, ac, CG, IO, IA⟩ := hg
      obtain ⟨ab, ao, _, rfl, _, _, _, _, _⟩ := IA.at ha
      have B3 := Lib.hid (bel_trans B1.out b3)
      have C3 := Lib.hid (C1.out.below b3)
      have D3 := Lib.hid (D1.out.below b3)
      have G3 := Lib.hid CG
      have I3 := Lib.hid IA
      clear b3 CG IO IA C1 D1
      have O0 := Lib.hid (show OwnI (w3.alloc (.cells #[.int .i64 a] 2)) w3.heap.size (some ⟨w3.heap.size, 0, none⟩) 1 1 [(a : Int)] from ownI_lits w3 [(a : Int)] (by intro z hz; simp at hz; subst hz; exact WalkArith.wf_i64 (by omega)) (by simp))
      have A0 := Lib.hid (bel_alloc w3 (.cells #[.int .i64 a] 2))
      have ewn : IntKind.i64.wrap ((n : Int) - 1) = (n : Int) - 1 := IntWalk.i64_in _ (by omega)
      go_wp2_with fail
      go_loopw [11, 12] (fun s t wr => ∃ (k gO cO : Nat), k ≤ M.length ∧ t = .int .i64 k ∧ s = .slice (some ⟨gO, 0, none⟩) (outD a Y M k).length cO ∧ OwnI wr w3.heap.size (some ⟨gO, 0, none⟩) (outD a Y M k).length cO (outD a Y M k) ∧ Hid (∀ i, i < k → OkD n es a Y M i) ∧ Below w3.heap.size w3 wr) (fun _ t _ => M.length - (intOf t).toNat)
      case atStart => exact ⟨0, w3.heap.size, 1, Nat.zero_le _, rfl, rfl, O0.out, fun i h => absurd h (by omega), A0.out⟩
      case round =>
        obtain ⟨k, gO, cO, hk, rfl, rfl, hO, AL, hB⟩ := hrel
        have HO := Lib.hid hO
        have HB := Lib.hid hB
        have hs := hB.size
        have B2 := Lib.hid (bel_trans B3.out hB)
        have C2 := Lib.hid (C3.out.below hB)
        have D2 := Lib.hid (D3.out.below hB)
        have G2 := Lib.hid (G3.out.below hB)
        have ivy := I3.out.below hB
        clear hO hB O0 A0
        by_cases hlt : k < M.length
        · have dk := decide_eq_true (show (k : Int) < (M.length : Int) by omega)
          have k0 : (0 : Int) ≤ (k : Int) := by omega
          have k1 : (k : Int) < (M.length : Int) := by omega
          obtain ⟨mb, mo, mv, rfl, mbl, cm, mv1, mv2, em⟩ := (HM.out.below B2.out).at hlt
          have GM := Lib.hid (getD_at em.out)
          obtain ⟨x, hx, hxn, hxr⟩ := lastD_ok OK.out ha ST.out k AL.out
          have hla := outD_last a Y M k
          have LN0 := outD_len a Y M k
          have OS := Lib.hid (show outD a Y M (k + 1) = outD a Y M k ++ [mv, Y.getD mv.toNat 0] by rw [outD, GM.out])
          have OKI := Lib.hid (show OkD n es a Y M k ↔ (0 ≤ mv ∧ mv < n) ∧ attB es mv (x : Int) = true from by unfold OkD; rw [GM.out, hx])
          rw [hx] at hla
          obtain ⟨O, hOO⟩ : ∃ l, outD a Y M k = l := ⟨_, rfl⟩
          rw [hOO] at HO hla LN0 OS ⊢
          obtain ⟨lO, hlO⟩ : ∃ l, O.length = l := ⟨_, rfl⟩
          rw [hlO] at HO hla LN0 ⊢
          have lb1 : 1 ≤ lO := by omega
          have lb2 : lO ≤ 100 := by omega
          have HLO := Lib.hid hlO
          clear LN0 hlO
          have gl := (HO.out.block gO rfl).2
          have cl := HO.out.cell hla
          have xx0 : (0 : Int) ≤ (x : Int) := by omega
          have xx1 : (x : Int) < (n : Int) := by omega
          obtain ⟨_, _, e1, cax⟩ := ivy.get (attL_at es hxn)
          simp only [Option.some.injEq, Addr.mk.injEq, and_true] at e1
          obtain ⟨rfl, rfl⟩ := e1
          obtain ⟨_, _, e1, abl, _⟩ := ivy.2.2.2.2 (by omega)
          simp only [Option.some.injEq, Addr.mk.injEq, and_true] at e1
          obtain ⟨rfl, rfl⟩ := e1
          have ax10 : attM es x < 1024 := attM_lt (n := 10) (fun p hp => by have := (OK.out.inn p hp).1; omega) x
          have ew : IntKind.i64.wrap ((lO : Int) - 1) = ((lO - 1 : Nat) : Int) := by rw [show ((lO - 1 : Nat) : Int) = (lO : Int) - 1 by omega]; exact IntWalk.i64_in _ (by omega)
          have l0 : (0 : Int) ≤ ((lO - 1 : Nat) : Int) := by omega
          have l1 : ((lO - 1 : Nat) : Int) < (lO : Int) := by omega
          have AB := Lib.hid (fun q => attM_bit es x q)
          have INX := Lib.hid (fun q v (hv : (attM es x).testBit q = v) (hq : q ≤ 10) W => l08In_v hv ax10 hq W)
          obtain ⟨ax, hax⟩ : ∃ v, attM es x = v := ⟨_, rfl⟩
          rw [hax] at cax AB INX
          have NOK := Lib.hid (fun (hn : ¬ OkD n es a Y M k) => (show ¬ DiscP n es a R Y M from fun p => hn (p.all k hlt)))
          have IR := Lib.hid (fun W (hW : Below wr.heap.size wr W) => (show Calls Try.prog 66 #[.int .i64 mv, .int .i64 0, .int .i64 ((n : Int) - 1)] W fun e w' => e = .returned (.bool (inR mv 0 ((n : Int) - 1))) ∧ Below W.heap.size W w' from (l00In_any mv 0 ((n : Int) - 1) W).mono fun e w' hh => ⟨hh.1, hh.2 ▸ Below.refl _ _⟩))
          clear hla hx em hOO hax ivy
          cases v1 : inR mv 0 ((n : Int) - 1)
          · simp only [v1] at IR
            have N := Lib.hid (NOK.out fun o => by have := (OKI.out.1 o).1; have h2 := inR_true.2 (show 0 ≤ mv ∧ mv ≤ (n : Int) - 1 by omega); rw [v1] at h2; exact absurd h2 (by simp))
            have SS := Lib.hid (fun (W : World) (hW : Below wr.heap.size wr W) => (show Below wr.heap.size wr W ∧ W.cell? ⟨w.heap.size, 0, none⟩ = some (.int .i64 n) ∧ W.cell? ⟨gG, 2, none⟩ = some (.slice (some ⟨ab, ao, none⟩) n ac) ∧ W.cell? ⟨mb, mo + k, none⟩ = some (.int .i64 mv) ∧ W.cell? ⟨gO, lO - 1, none⟩ = some (.int .i64 x) ∧ W.cell? ⟨ab, ao + x, none⟩ = some (.int .i64 ax) from ⟨hW, (C2.out.below hW).cell 0 rfl, (G2.out.below hW).cell 2 rfl, (hW.cell (p := ⟨mb, mo + k, none⟩) mbl).trans cm, (hW.cell (p := ⟨gO, lO - 1, none⟩) gl).trans cl, (hW.cell (p := ⟨ab, ao + x, none⟩) abl).trans cax⟩))
            clear v1 OS cl cax
            go_wp2_with fail
            refine wp_region_noPanic ?_
            refine wp_region_R (inFirst (fun W => Below wr.heap.size wr W ∧ W.cell? ⟨w.heap.size, 0, none⟩ = some (.int .i64 n) ∧ W.cell? ⟨gG, 2, none⟩ = some (.slice (some ⟨ab, ao, none⟩) n ac) ∧ W.cell? ⟨mb, mo + k, none⟩ = some (.int .i64 mv) ∧ W.cell? ⟨gO, lO - 1, none⟩ = some (.int .i64 x) ∧ W.cell? ⟨ab, ao + x, none⟩ = some (.int .i64 ax)) 29) (by kernel_rfl) ?_
            have hS := SS.out wr.drew ⟨rfl, rfl, rfl, Nat.le_refl _, fun _ _ => rfl⟩
            refine anyR_take (i := 0) (.slice (some ⟨mb, mo, none⟩) M.length mc) rfl (by kernel_rfl) (by kernel_rfl) (by kernel_rfl) (by kernel_rfl) (fun _ _ _ h => h) (by assumption) ⟨by rfl, ?_⟩ ?_
            · intro W hW
              go_simp
            try simp only [Act.put, List.setIfInBounds_toArray, List.set_cons_zero, List.set_cons_succ, List.getElem_toArray, List.getElem_cons_zero, List.getElem_cons_succ]
            refine anyR_take (i := 1) (.int .i64 k) rfl (by kernel_rfl) (by kernel_rfl) (by kernel_rfl) (by kernel_rfl) (fun _ _ _ h => h) (by assumption) ⟨by rfl, ?_⟩ ?_
            · intro W hW
              go_simp
            try simp only [Act.put, List.setIfInBounds_toArray, List.set_cons_zero, List.set_cons_succ, List.getElem_toArray, List.getElem_cons_zero, List.getElem_cons_succ]
            refine anyR_take (i := 2) (.pointer (some ⟨mb, mo + k, none⟩)) rfl (by kernel_rfl) (by kernel_rfl) (by kernel_rfl) (by kernel_rfl) (fun _ _ _ h => h) (by assumption) ⟨by rfl, ?_⟩ ?_
            · intro W hW
              go_simp
            try simp only [Act.put, List.setIfInBounds_toArray, List.set_cons_zero, List.set_cons_succ, List.getElem_toArray, List.getElem_cons_zero, List.getElem_cons_succ]
            refine anyR_take (i := 3) (.int .i64 mv) rfl (by kernel_rfl) (by kernel_rfl) (by kernel_rfl) (by kernel_rfl) (fun _ _ _ h => h) (by assumption) ⟨by rfl, ?_⟩ ?_
            · intro W hW
              go_simp
            try simp only [Act.put, List.setIfInBounds_toArray, List.set_cons_zero, List.set_cons_succ, List.getElem_toArray, List.getElem_cons_zero, List.getElem_cons_succ]
            refine anyR_take (i := 4) (.pointer (some ⟨w.heap.size, 0, none⟩)) rfl (by kernel_rfl) (by kernel_rfl) (by kernel_rfl) (by kernel_rfl) (fun _ _ _ h => h) (by assumption) ⟨by rfl, ?_⟩ ?_
            · intro W hW
              go_simp
            try simp only [Act.put, List.setIfInBounds_toArray, List.set_cons_zero, List.set_cons_succ, List.getElem_toArray, List.getElem_cons_zero, List.getElem_cons_succ]
            refine anyR_take (i := 5) (.int .i64 n) rfl (by kernel_rfl) (by kernel_rfl) (by kernel_rfl) (by kernel_rfl) (fun _ _ _ h => h) (by assumption) ⟨by rfl, ?_⟩ ?_
            · intro W hW
              go_simp
            try simp only [Act.put, List.setIfInBounds_toArray, List.set_cons_zero, List.set_cons_succ, List.getElem_toArray, List.getElem_cons_zero, List.getElem_cons_succ]
            refine anyR_take (i := 6) (.int .i64 ((n : Int) - 1)) rfl (by kernel_rfl) (by kernel_rfl) (by kernel_rfl) (by kernel_rfl) (fun _ _ _ h => h) (by assumption) ⟨by rfl, ?_⟩ ?_
            · intro W hW
              go_simp
            try simp only [Act.put, List.setIfInBounds_toArray, List.set_cons_zero, List.set_cons_succ, List.getElem_toArray, List.getElem_cons_zero, List.getElem_cons_succ]
            refine anyR_one (i := 7) (by kernel_rfl) rfl ?_
            intro K hK
            go_simp
            go_at_call 66
            refine (IR.out _ hS.1).mono ?_
            rintro e w9 ⟨rfl, b9⟩
            have hT := SS.out w9 (bel_trans hS.1 b9)
            refine hK.out _ _ (fun _ => hT) ?_
            clear hS b9
            have hS := hT
            clear hT
            clear hK K
            try simp only [Act.put, List.setIfInBounds_toArray, List.set_cons_zero, List.set_cons_succ, List.getElem_toArray, List.getElem_cons_zero, List.getElem_cons_succ]
            refine anyR_take (i := 8) (.bool true) rfl (by kernel_rfl) (by kernel_rfl) (by kernel_rfl) (by kernel_rfl) (fun _ _ _ h => h) (by assumption) ⟨by rfl, ?_⟩ ?_
            · intro W hW
              go_simp
            try simp only [Act.put, List.setIfInBounds_toArray, List.set_cons_zero, List.set_cons_succ, List.getElem_toArray, List.getElem_cons_zero, List.getElem_cons_succ]
            refine anyR_take (i := 9) (.bool true) rfl (by kernel_rfl) (by kernel_rfl) (by kernel_rfl) (by kernel_rfl) (fun _ _ _ h => h) (by assumption) ⟨by rfl, ?_⟩ ?_
            · intro W hW
              go_simp
            try simp only [Act.put, List.setIfInBounds_toArray, List.set_cons_zero, List.set_cons_succ, List.getElem_toArray, List.getElem_cons_zero, List.getElem_cons_succ]
            refine anyR_skip (i := 10) rfl (by kernel_rfl) (by kernel_rfl) (by kernel_rfl) (by kernel_rfl) (fun _ _ _ h => h) (by assumption) (by rfl) ?_
            try simp only [Act.put, List.setIfInBounds_toArray, List.set_cons_zero, List.set_cons_succ, List.getElem_toArray, List.getElem_cons_zero, List.getElem_cons_succ]
            refine anyR_skip (i := 11) rfl (by kernel_rfl) (by kernel_rfl) (by kernel_rfl) (by kernel_rfl) (fun _ _ _ h => h) (by assumption) (by rfl) ?_
            try simp only [Act.put, List.setIfInBounds_toArray, List.set_cons_zero, List.set_cons_succ, List.getElem_toArray, List.getElem_cons_zero, List.getElem_cons_succ]
            refine anyR_skip (i := 12) rfl (by kernel_rfl) (by kernel_rfl) (by kernel_rfl) (by kernel_rfl) (fun _ _ _ h => h) (by assumption) (by rfl) ?_
            try simp only [Act.put, List.setIfInBounds_toArray, List.set_cons_zero, List.set_cons_succ, List.getElem_toArray, List.getElem_cons_zero, List.getElem_cons_succ]
            refine anyR_skip (i := 13) rfl (by kernel_rfl) (by kernel_rfl) (by kernel_rfl) (by kernel_rfl) (fun _ _ _ h => h) (by assumption) (by rfl) ?_
            try simp only [Act.put, List.setIfInBounds_toArray, List.set_cons_zero, List.set_cons_succ, List.getElem_toArray, List.getElem_cons_zero, List.getElem_cons_succ]
            refine anyR_skip (i := 14) rfl (by kernel_rfl) (by kernel_rfl) (by kernel_rfl) (by kernel_rfl) (fun _ _ _ h => h) (by assumption) (by rfl) ?_
            try simp only [Act.put, List.setIfInBounds_toArray, List.set_cons_zero, List.set_cons_succ, List.getElem_toArray, List.getElem_cons_zero, List.getElem_cons_succ]
            refine anyR_skip (i := 15) rfl (by kernel_rfl) (by kernel_rfl) (by kernel_rfl) (by kernel_rfl) (fun _ _ _ h => h) (by assumption) (by rfl) ?_
            try simp only [Act.put, List.setIfInBounds_toArray, List.set_cons_zero, List.set_cons_succ, List.getElem_toArray, List.getElem_cons_zero, List.getElem_cons_succ]
            refine anyR_skip (i := 16) rfl (by kernel_rfl) (by kernel_rfl) (by kernel_rfl) (by kernel_rfl) (fun _ _ _ h => h) (by assumption) (by rfl) ?_
            try simp only [Act.put, List.setIfInBounds_toArray, List.set_cons_zero, List.set_cons_succ, List.getElem_toArray, List.getElem_cons_zero, List.getElem_cons_succ]
            refine anyR_skip (i := 17) rfl (by kernel_rfl) (by kernel_rfl) (by kernel_rfl) (by kernel_rfl) (fun _ _ _ h => h) (by assumption) (by rfl) ?_
            try simp only [Act.put, List.setIfInBounds_toArray, List.set_cons_zero, List.set_cons_succ, List.getElem_toArray, List.getElem_cons_zero, List.getElem_cons_succ]
            refine anyR_skip (i := 18) rfl (by kernel_rfl) (by kernel_rfl) (by kernel_rfl) (by kernel_rfl) (fun _ _ _ h => h) (by assumption) (by rfl) ?_
            try simp only [Act.put, List.setIfInBounds_toArray, List.set_cons_zero, List.set_cons_succ, List.getElem_toArray, List.getElem_cons_zero, List.getElem_cons_succ]
            refine anyR_skip (i := 19) rfl (by kernel_rfl) (by kernel_rfl) (by kernel_rfl) (by kernel_rfl) (fun _ _ _ h => h) (by assumption) (by rfl) ?_
            try simp only [Act.put, List.setIfInBounds_toArray, List.set_cons_zero, List.set_cons_succ, List.getElem_toArray, List.getElem_cons_zero, List.getElem_cons_succ]
            refine anyR_skip (i := 20) rfl (by kernel_rfl) (by kernel_rfl) (by kernel_rfl) (by kernel_rfl) (fun _ _ _ h => h) (by assumption) (by rfl) ?_
            try simp only [Act.put, List.setIfInBounds_toArray, List.set_cons_zero, List.set_cons_succ, List.getElem_toArray, List.getElem_cons_zero, List.getElem_cons_succ]
            refine anyR_skip (i := 21) rfl (by kernel_rfl) (by kernel_rfl) (by kernel_rfl) (by kernel_rfl) (fun _ _ _ h => h) (by assumption) (by rfl) ?_
            try simp only [Act.put, List.setIfInBounds_toArray, List.set_cons_zero, List.set_cons_succ, List.getElem_toArray, List.getElem_cons_zero, List.getElem_cons_succ]
            refine anyR_skip (i := 22) rfl (by kernel_rfl) (by kernel_rfl) (by kernel_rfl) (by kernel_rfl) (fun _ _ _ h => h) (by assumption) (by rfl) ?_
            try simp only [Act.put, List.setIfInBounds_toArray, List.set_cons_zero, List.set_cons_succ, List.getElem_toArray, List.getElem_cons_zero, List.getElem_cons_succ]
            refine anyR_skip (i := 23) rfl (by kernel_rfl) (by kernel_rfl) (by kernel_rfl) (by kernel_rfl) (fun _ _ _ h => h) (by assumption) (by rfl) ?_
            try simp only [Act.put, List.setIfInBounds_toArray, List.set_cons_zero, List.set_cons_succ, List.getElem_toArray, List.getElem_cons_zero, List.getElem_cons_succ]
            refine anyR_skip (i := 24) rfl (by kernel_rfl) (by kernel_rfl) (by kernel_rfl) (by kernel_rfl) (fun _ _ _ h => h) (by assumption) (by rfl) ?_
            try simp only [Act.put, List.setIfInBounds_toArray, List.set_cons_zero, List.set_cons_succ, List.getElem_toArray, List.getElem_cons_zero, List.getElem_cons_succ]
            refine anyR_skip (i := 25) rfl (by kernel_rfl) (by kernel_rfl) (by kernel_rfl) (by kernel_rfl) (fun _ _ _ h => h) (by assumption) (by rfl) ?_
            try simp only [Act.put, List.setIfInBounds_toArray, List.set_cons_zero, List.set_cons_succ, List.getElem_toArray, List.getElem_cons_zero, List.getElem_cons_succ]
            refine anyR_skip (i := 26) rfl (by kernel_rfl) (by kernel_rfl) (by kernel_rfl) (by kernel_rfl) (fun _ _ _ h => h) (by assumption) (by rfl) ?_
            try simp only [Act.put, List.setIfInBounds_toArray, List.set_cons_zero, List.set_cons_succ, List.getElem_toArray, List.getElem_cons_zero, List.getElem_cons_succ]
            refine anyR_skip (i := 27) rfl (by kernel_rfl) (by kernel_rfl) (by kernel_rfl) (by kernel_rfl) (fun _ _ _ h => h) (by assumption) (by rfl) ?_
            try simp only [Act.put, List.setIfInBounds_toArray, List.set_cons_zero, List.set_cons_succ, List.getElem_toArray, List.getElem_cons_zero, List.getElem_cons_succ]
            refine anyR_take (i := 28) (.bool true) rfl (by kernel_rfl) (by kernel_rfl) (by kernel_rfl) (by kernel_rfl) (fun _ _ _ h => h) (by assumption) ⟨by rfl, ?_⟩ ?_
            · intro W hW
              go_simp
            try simp only [Act.put, List.setIfInBounds_toArray, List.set_cons_zero, List.set_cons_succ, List.getElem_toArray, List.getElem_cons_zero, List.getElem_cons_succ]
            refine anyR_done (by kernel_rfl) ?_ _
            refine NoPanic.normal ?_
            have BE := Lib.hid (bel_trans B2.out hS.1)
            clear hS SS
            go_wp2_with fail
            exact bodyPost_ret (v := .tuple #[.slice none 0 0, .bool false]) (by simp [results, Try.results18, go_sem]) rfl (NOE.out _ _ N.out rfl BE.out)
          · simp only [v1] at IR
            have hmr := inR_true.1 v1
            obtain ⟨q, rfl⟩ := Int.eq_ofNat_of_zero_le hmr.1
            have SS := Lib.hid (fun (W : World) (hW : Below wr.heap.size wr W) => (show Below wr.heap.size wr W ∧ W.cell? ⟨w.heap.size, 0, none⟩ = some (.int .i64 n) ∧ W.cell? ⟨gG, 2, none⟩ = some (.slice (some ⟨ab, ao, none⟩) n ac) ∧ W.cell? ⟨mb, mo + k, none⟩ = some (.int .i64 q) ∧ W.cell? ⟨gO, lO - 1, none⟩ = some (.int .i64 x) ∧ W.cell? ⟨ab, ao + x, none⟩ = some (.int .i64 ax) from ⟨hW, (C2.out.below hW).cell 0 rfl, (G2.out.below hW).cell 2 rfl, (hW.cell (p := ⟨mb, mo + k, none⟩) mbl).trans cm, (hW.cell (p := ⟨gO, lO - 1, none⟩) gl).trans cl, (hW.cell (p := ⟨ab, ao + x, none⟩) abl).trans cax⟩))
            obtain ⟨v2, hv2⟩ : ∃ v, ax.testBit q = v := ⟨_, rfl⟩
            have AT := Lib.hid (fun W (hW : Below wr.heap.size wr W) => (show Calls Try.prog 67 #[.int .i64 ax, .int .i64 q] W fun e w' => e = .returned (.bool v2) ∧ Below W.heap.size W w' from (INX.out q v2 hv2 (by omega) W).mono fun e w' hh => ⟨hh.1, hh.2 ▸ Below.refl _ _⟩))
            cases v2
            · have N := Lib.hid (NOK.out fun o => by have := (AB.out q).2 ((attB_nat q x).1 (OKI.out.1 o).2); rw [hv2] at this; exact absurd this (by simp))
              clear v1 OS hv2 cl cax
              go_wp2_with fail
              refine wp_region_noPanic ?_
              refine wp_region_R (inFirst (fun W => Below wr.heap.size wr W ∧ W.cell? ⟨w.heap.size, 0, none⟩ = some (.int .i64 n) ∧ W.cell? ⟨gG, 2, none⟩ = some (.slice (some ⟨ab, ao, none⟩) n ac) ∧ W.cell? ⟨mb, mo + k, none⟩ = some (.int .i64 q) ∧ W.cell? ⟨gO, lO - 1, none⟩ = some (.int .i64 x) ∧ W.cell? ⟨ab, ao + x, none⟩ = some (.int .i64 ax)) 29) (by kernel_rfl) ?_
              have hS := SS.out wr.drew ⟨rfl, rfl, rfl, Nat.le_refl _, fun _ _ => rfl⟩
              refine anyR_take (i := 0) (.slice (some ⟨mb, mo, none⟩) M.length mc) rfl (by kernel_rfl) (by kernel_rfl) (by kernel_rfl) (by kernel_rfl) (fun _ _ _ h => h) (by assumption) ⟨by rfl, ?_⟩ ?_
              · intro W hW
                go_simp
              try simp only [Act.put, List.setIfInBounds_toArray, List.set_cons_zero, List.set_cons_succ, List.getElem_toArray, List.getElem_cons_zero, List.getElem_cons_succ]
              refine anyR_take (i := 1) (.int .i64 k) rfl (by kernel_rfl) (by kernel_rfl) (by kernel_rfl) (by kernel_rfl) (fun _ _ _ h => h) (by assumption) ⟨by rfl, ?_⟩ ?_
              · intro W hW
                go_simp
              try simp only [Act.put, List.setIfInBounds_toArray, List.set_cons_zero, List.set_cons_succ, List.getElem_toArray, List.getElem_cons_zero, List.getElem_cons_succ]
              refine anyR_take (i := 2) (.pointer (some ⟨mb, mo + k, none⟩)) rfl (by kernel_rfl) (by kernel_rfl) (by kernel_rfl) (by kernel_rfl) (fun _ _ _ h => h) (by assumption) ⟨by rfl, ?_⟩ ?_
              · intro W hW
                go_simp
              try simp only [Act.put, List.setIfInBounds_toArray, List.set_cons_zero, List.set_cons_succ, List.getElem_toArray, List.getElem_cons_zero, List.getElem_cons_succ]
              refine anyR_take (i := 3) (.int .i64 (q : Nat)) rfl (by kernel_rfl) (by kernel_rfl) (by kernel_rfl) (by kernel_rfl) (fun _ _ _ h => h) (by assumption) ⟨by rfl, ?_⟩ ?_
              · intro W hW
                go_simp
              try simp only [Act.put, List.setIfInBounds_toArray, List.set_cons_zero, List.set_cons_succ, List.getElem_toArray, List.getElem_cons_zero, List.getElem_cons_succ]
              refine anyR_take (i := 4) (.pointer (some ⟨w.heap.size, 0, none⟩)) rfl (by kernel_rfl) (by kernel_rfl) (by kernel_rfl) (by kernel_rfl) (fun _ _ _ h => h) (by assumption) ⟨by rfl, ?_⟩ ?_
              · intro W hW
                go_simp
              try simp only [Act.put, List.setIfInBounds_toArray, List.set_cons_zero, List.set_cons_succ, List.getElem_toArray, List.getElem_cons_zero, List.getElem_cons_succ]
              refine anyR_take (i := 5) (.int .i64 n) rfl (by kernel_rfl) (by kernel_rfl) (by kernel_rfl) (by kernel_rfl) (fun _ _ _ h => h) (by assumption) ⟨by rfl, ?_⟩ ?_
              · intro W hW
                go_simp
              try simp only [Act.put, List.setIfInBounds_toArray, List.set_cons_zero, List.set_cons_succ, List.getElem_toArray, List.getElem_cons_zero, List.getElem_cons_succ]
              refine anyR_take (i := 6) (.int .i64 ((n : Int) - 1)) rfl (by kernel_rfl) (by kernel_rfl) (by kernel_rfl) (by kernel_rfl) (fun _ _ _ h => h) (by assumption) ⟨by rfl, ?_⟩ ?_
              · intro W hW
                go_simp
              try simp only [Act.put, List.setIfInBounds_toArray, List.set_cons_zero, List.set_cons_succ, List.getElem_toArray, List.getElem_cons_zero, List.getElem_cons_succ]
              refine anyR_one (i := 7) (by kernel_rfl) rfl ?_
              intro K hK
              go_simp
              go_at_call 66
              refine (IR.out _ hS.1).mono ?_
              rintro e w9 ⟨rfl, b9⟩
              have hT := SS.out w9 (bel_trans hS.1 b9)
              refine hK.out _ _ (fun _ => hT) ?_
              clear hS b9
              have hS := hT
              clear hT
              clear hK K
              try simp only [Act.put, List.setIfInBounds_toArray, List.set_cons_zero, List.set_cons_succ, List.getElem_toArray, List.getElem_cons_zero, List.getElem_cons_succ]
              refine anyR_take (i := 8) (.bool false) rfl (by kernel_rfl) (by kernel_rfl) (by kernel_rfl) (by kernel_rfl) (fun _ _ _ h => h) (by assumption) ⟨by rfl, ?_⟩ ?_
              · intro W hW
                go_simp
              try simp only [Act.put, List.setIfInBounds_toArray, List.set_cons_zero, List.set_cons_succ, List.getElem_toArray, List.getElem_cons_zero, List.getElem_cons_succ]
              refine anyR_take (i := 9) (.bool false) rfl (by kernel_rfl) (by kernel_rfl) (by kernel_rfl) (by kernel_rfl) (fun _ _ _ h => h) (by assumption) ⟨by rfl, ?_⟩ ?_
              · intro W hW
                go_simp
              try simp only [Act.put, List.setIfInBounds_toArray, List.set_cons_zero, List.set_cons_succ, List.getElem_toArray, List.getElem_cons_zero, List.getElem_cons_succ]
              refine anyR_take (i := 10) (.pointer (some ⟨gG, 0, none⟩)) rfl (by kernel_rfl) (by kernel_rfl) (by kernel_rfl) (by kernel_rfl) (fun _ _ _ h => h) (by assumption) ⟨by rfl, ?_⟩ ?_
              · intro W hW
                go_simp
              try simp only [Act.put, List.setIfInBounds_toArray, List.set_cons_zero, List.set_cons_succ, List.getElem_toArray, List.getElem_cons_zero, List.getElem_cons_succ]
              refine anyR_take (i := 11) (.pointer (some ⟨gG, 0, none⟩)) rfl (by kernel_rfl) (by kernel_rfl) (by kernel_rfl) (by kernel_rfl) (fun _ _ _ h => h) (by assumption) ⟨by rfl, ?_⟩ ?_
              · intro W hW
                go_simp
              try simp only [Act.put, List.setIfInBounds_toArray, List.set_cons_zero, List.set_cons_succ, List.getElem_toArray, List.getElem_cons_zero, List.getElem_cons_succ]
              refine anyR_take (i := 12) (.pointer (some ⟨gG, 2, none⟩)) rfl (by kernel_rfl) (by kernel_rfl) (by kernel_rfl) (by kernel_rfl) (fun _ _ _ h => h) (by assumption) ⟨by rfl, ?_⟩ ?_
              · intro W hW
                go_simp
              try simp only [Act.put, List.setIfInBounds_toArray, List.set_cons_zero, List.set_cons_succ, List.getElem_toArray, List.getElem_cons_zero, List.getElem_cons_succ]
              refine anyR_take (i := 13) (.slice (some ⟨ab, ao, none⟩) n ac) rfl (by kernel_rfl) (by kernel_rfl) (by kernel_rfl) (by kernel_rfl) (fun _ _ _ h => h) (by assumption) ⟨by rfl, ?_⟩ ?_
              · intro W hW
                go_simp
              try simp only [Act.put, List.setIfInBounds_toArray, List.set_cons_zero, List.set_cons_succ, List.getElem_toArray, List.getElem_cons_zero, List.getElem_cons_succ]
              refine anyR_take (i := 14) (.slice (some ⟨gO, 0, none⟩) lO cO) rfl (by kernel_rfl) (by kernel_rfl) (by kernel_rfl) (by kernel_rfl) (fun _ _ _ h => h) (by assumption) ⟨by rfl, ?_⟩ ?_
              · intro W hW
                go_simp
              try simp only [Act.put, List.setIfInBounds_toArray, List.set_cons_zero, List.set_cons_succ, List.getElem_toArray, List.getElem_cons_zero, List.getElem_cons_succ]
              refine anyR_take (i := 15) (.slice (some ⟨gO, 0, none⟩) lO cO) rfl (by kernel_rfl) (by kernel_rfl) (by kernel_rfl) (by kernel_rfl) (fun _ _ _ h => h) (by assumption) ⟨by rfl, ?_⟩ ?_
              · intro W hW
                go_simp
              try simp only [Act.put, List.setIfInBounds_toArray, List.set_cons_zero, List.set_cons_succ, List.getElem_toArray, List.getElem_cons_zero, List.getElem_cons_succ]
              refine anyR_take (i := 16) (.int .i64 (lO : Nat)) rfl (by kernel_rfl) (by kernel_rfl) (by kernel_rfl) (by kernel_rfl) (fun _ _ _ h => h) (by assumption) ⟨by rfl, ?_⟩ ?_
              · intro W hW
                go_simp
              try simp only [Act.put, List.setIfInBounds_toArray, List.set_cons_zero, List.set_cons_succ, List.getElem_toArray, List.getElem_cons_zero, List.getElem_cons_succ]
              refine anyR_take (i := 17) (.int .i64 ((lO - 1 : Nat) : Int)) rfl (by kernel_rfl) (by kernel_rfl) (by kernel_rfl) (by kernel_rfl) (fun _ _ _ h => h) (by assumption) ⟨by rfl, ?_⟩ ?_
              · intro W hW
                go_simp
              try simp only [Act.put, List.setIfInBounds_toArray, List.set_cons_zero, List.set_cons_succ, List.getElem_toArray, List.getElem_cons_zero, List.getElem_cons_succ]
              refine anyR_take (i := 18) (.pointer (some ⟨gO, lO - 1, none⟩)) rfl (by kernel_rfl) (by kernel_rfl) (by kernel_rfl) (by kernel_rfl) (fun _ _ _ h => h) (by assumption) ⟨by rfl, ?_⟩ ?_
              · intro W hW
                go_simp
              try simp only [Act.put, List.setIfInBounds_toArray, List.set_cons_zero, List.set_cons_succ, List.getElem_toArray, List.getElem_cons_zero, List.getElem_cons_succ]
              refine anyR_take (i := 19) (.int .i64 x) rfl (by kernel_rfl) (by kernel_rfl) (by kernel_rfl) (by kernel_rfl) (fun _ _ _ h => h) (by assumption) ⟨by rfl, ?_⟩ ?_
              · intro W hW
                go_simp
              try simp only [Act.put, List.setIfInBounds_toArray, List.set_cons_zero, List.set_cons_succ, List.getElem_toArray, List.getElem_cons_zero, List.getElem_cons_succ]
              refine anyR_take (i := 20) (.pointer (some ⟨ab, ao + x, none⟩)) rfl (by kernel_rfl) (by kernel_rfl) (by kernel_rfl) (by kernel_rfl) (fun _ _ _ h => h) (by assumption) ⟨by rfl, ?_⟩ ?_
              · intro W hW
                go_simp
              try simp only [Act.put, List.setIfInBounds_toArray, List.set_cons_zero, List.set_cons_succ, List.getElem_toArray, List.getElem_cons_zero, List.getElem_cons_succ]
              refine anyR_take (i := 21) (.int .i64 (ax : Nat)) rfl (by kernel_rfl) (by kernel_rfl) (by kernel_rfl) (by kernel_rfl) (fun _ _ _ h => h) (by assumption) ⟨by rfl, ?_⟩ ?_
              · intro W hW
                go_simp
              try simp only [Act.put, List.setIfInBounds_toArray, List.set_cons_zero, List.set_cons_succ, List.getElem_toArray, List.getElem_cons_zero, List.getElem_cons_succ]
              refine anyR_take (i := 22) (.slice (some ⟨mb, mo, none⟩) M.length mc) rfl (by kernel_rfl) (by kernel_rfl) (by kernel_rfl) (by kernel_rfl) (fun _ _ _ h => h) (by assumption) ⟨by rfl, ?_⟩ ?_
              · intro W hW
                go_simp
              try simp only [Act.put, List.setIfInBounds_toArray, List.set_cons_zero, List.set_cons_succ, List.getElem_toArray, List.getElem_cons_zero, List.getElem_cons_succ]
              refine anyR_take (i := 23) (.int .i64 k) rfl (by kernel_rfl) (by kernel_rfl) (by kernel_rfl) (by kernel_rfl) (fun _ _ _ h => h) (by assumption) ⟨by rfl, ?_⟩ ?_
              · intro W hW
                go_simp
              try simp only [Act.put, List.setIfInBounds_toArray, List.set_cons_zero, List.set_cons_succ, List.getElem_toArray, List.getElem_cons_zero, List.getElem_cons_succ]
              refine anyR_take (i := 24) (.pointer (some ⟨mb, mo + k, none⟩)) rfl (by kernel_rfl) (by kernel_rfl) (by kernel_rfl) (by kernel_rfl) (fun _ _ _ h => h) (by assumption) ⟨by rfl, ?_⟩ ?_
              · intro W hW
                go_simp
              try simp only [Act.put, List.setIfInBounds_toArray, List.set_cons_zero, List.set_cons_succ, List.getElem_toArray, List.getElem_cons_zero, List.getElem_cons_succ]
              refine anyR_take (i := 25) (.int .i64 (q : Nat)) rfl (by kernel_rfl) (by kernel_rfl) (by kernel_rfl) (by kernel_rfl) (fun _ _ _ h => h) (by assumption) ⟨by rfl, ?_⟩ ?_
              · intro W hW
                go_simp
              try simp only [Act.put, List.setIfInBounds_toArray, List.set_cons_zero, List.set_cons_succ, List.getElem_toArray, List.getElem_cons_zero, List.getElem_cons_succ]
              refine anyR_one (i := 26) (by kernel_rfl) rfl ?_
              intro K hK
              go_simp
              go_at_call 67
              refine (AT.out _ hS.1).mono ?_
              rintro e w9 ⟨rfl, b9⟩
              have hT := SS.out w9 (bel_trans hS.1 b9)
              refine hK.out _ _ (fun _ => hT) ?_
              clear hS b9
              have hS := hT
              clear hT
              clear hK K
              try simp only [Act.put, List.setIfInBounds_toArray, List.set_cons_zero, List.set_cons_succ, List.getElem_toArray, List.getElem_cons_zero, List.getElem_cons_succ]
              refine anyR_take (i := 27) (.bool true) rfl (by kernel_rfl) (by kernel_rfl) (by kernel_rfl) (by kernel_rfl) (fun _ _ _ h => h) (by assumption) ⟨by rfl, ?_⟩ ?_
              · intro W hW
                go_simp
              try simp only [Act.put, List.setIfInBounds_toArray, List.set_cons_zero, List.set_cons_succ, List.getElem_toArray, List.getElem_cons_zero, List.getElem_cons_succ]
              refine anyR_take (i := 28) (.bool true) rfl (by kernel_rfl) (by kernel_rfl) (by kernel_rfl) (by kernel_rfl) (fun _ _ _ h => h) (by assumption) ⟨by rfl, ?_⟩ ?_
              · intro W hW
                go_simp
              try simp only [Act.put, List.setIfInBounds_toArray, List.set_cons_zero, List.set_cons_succ, List.getElem_toArray, List.getElem_cons_zero, List.getElem_cons_succ]
              refine anyR_done (by kernel_rfl) ?_ _
              refine NoPanic.normal ?_
              have BE := Lib.hid (bel_trans B2.out hS.1)
              clear hS SS
              go_wp2_with fail
              exact bodyPost_ret (v := .tuple #[.slice none 0 0, .bool false]) (by simp [results, Try.results18, go_sem]) rfl (NOE.out _ _ N.out rfl BE.out)
            · have AN := Lib.hid (fun i (hi : i < k + 1) => (show OkD n es a Y M i from by
                by_cases e : i < k
                · exact AL.out i e
                · have : i = k := by omega
                  subst this
                  exact OKI.out.2 ⟨by omega, (attB_nat q x).2 ((AB.out q).1 hv2)⟩))
              have ny1 : n = ny := ST.out.ly.symm.trans HY.out.1
              have qny : q < ny := by omega
              have qq0 : (0 : Int) ≤ (q : Int) := by omega
              have qq1 : (q : Int) < (ny : Int) := by omega
              clear ny1
              obtain ⟨yb, yo, yv, rfl, ybl, cyv, yv1, yv2, ey⟩ := (HY.out.below B3.out).at qny
              obtain ⟨_, _, mv3, e1, mbl3, cm3, _, _, em3⟩ := (HM.out.below B3.out).at hlt
              simp only [Option.some.injEq, Addr.mk.injEq, and_true] at e1
              obtain ⟨rfl, rfl⟩ := e1
              have em4 := getD_at em3.out
              rw [GM.out] at em4
              subst em4
              have GY := Lib.hid (show Y.getD q 0 = yv from getD_at ey.out)
              rw [Int.toNat_natCast, GY.out] at OS
              clear v1 hv2 cl cax em3 ey
              go_wp2_with fail
              refine wp_region_noPanic ?_
              refine wp_region_R (inFirst (fun W => Below wr.heap.size wr W ∧ W.cell? ⟨w.heap.size, 0, none⟩ = some (.int .i64 n) ∧ W.cell? ⟨gG, 2, none⟩ = some (.slice (some ⟨ab, ao, none⟩) n ac) ∧ W.cell? ⟨mb, mo + k, none⟩ = some (.int .i64 q) ∧ W.cell? ⟨gO, lO - 1, none⟩ = some (.int .i64 x) ∧ W.cell? ⟨ab, ao + x, none⟩ = some (.int .i64 ax)) 29) (by kernel_rfl) ?_
              have hS := SS.out wr.drew ⟨rfl, rfl, rfl, Nat.le_refl _, fun _ _ => rfl⟩
              refine anyR_take (i := 0) (.slice (some ⟨mb, mo, none⟩) M.length mc) rfl (by kernel_rfl) (by kernel_rfl) (by kernel_rfl) (by kernel_rfl) (fun _ _ _ h => h) (by assumption) ⟨by rfl, ?_⟩ ?_
              · intro W hW
                go_simp
              try simp only [Act.put, List.setIfInBounds_toArray, List.set_cons_zero, List.set_cons_succ, List.getElem_toArray, List.getElem_cons_zero, List.getElem_cons_succ]
              refine anyR_take (i := 1) (.int .i64 k) rfl (by kernel_rfl) (by kernel_rfl) (by kernel_rfl) (by kernel_rfl) (fun _ _ _ h => h) (by assumption) ⟨by rfl, ?_⟩ ?_
              · intro W hW
                go_simp
              try simp only [Act.put, List.setIfInBounds_toArray, List.set_cons_zero, List.set_cons_succ, List.getElem_toArray, List.getElem_cons_zero, List.getElem_cons_succ]
              refine anyR_take (i := 2) (.pointer (some ⟨mb, mo + k, none⟩)) rfl (by kernel_rfl) (by kernel_rfl) (by kernel_rfl) (by kernel_rfl) (fun _ _ _ h => h) (by assumption) ⟨by rfl, ?_⟩ ?_
              · intro W hW
                go_simp
              try simp only [Act.put, List.setIfInBounds_toArray, List.set_cons_zero, List.set_cons_succ, List.getElem_toArray, List.getElem_cons_zero, List.getElem_cons_succ]
              refine anyR_take (i := 3) (.int .i64 (q : Nat)) rfl (by kernel_rfl) (by kernel_rfl) (by kernel_rfl) (by kernel_rfl) (fun _ _ _ h => h) (by assumption) ⟨by rfl, ?_⟩ ?_
              · intro W hW
                go_simp
              try simp only [Act.put, List.setIfInBounds_toArray, List.set_cons_zero, List.set_cons_succ, List.getElem_toArray, List.getElem_cons_zero, List.getElem_cons_succ]
              refine anyR_take (i := 4) (.pointer (some ⟨w.heap.size, 0, none⟩)) rfl (by kernel_rfl) (by kernel_rfl) (by kernel_rfl) (by kernel_rfl) (fun _ _ _ h => h) (by assumption) ⟨by rfl, ?_⟩ ?_
              · intro W hW
                go_simp
              try simp only [Act.put, List.setIfInBounds_toArray, List.set_cons_zero, List.set_cons_succ, List.getElem_toArray, List.getElem_cons_zero, List.getElem_cons_succ]
              refine anyR_take (i := 5) (.int .i64 n) rfl (by kernel_rfl) (by kernel_rfl) (by kernel_rfl) (by kernel_rfl) (fun _ _ _ h => h) (by assumption) ⟨by rfl, ?_⟩ ?_
              · intro W hW
                go_simp
              try simp only [Act.put, List.setIfInBounds_toArray, List.set_cons_zero, List.set_cons_succ, List.getElem_toArray, List.getElem_cons_zero, List.getElem_cons_succ]
              refine anyR_take (i := 6) (.int .i64 ((n : Int) - 1)) rfl (by kernel_rfl) (by kernel_rfl) (by kernel_rfl) (by kernel_rfl) (fun _ _ _ h => h) (by assumption) ⟨by rfl, ?_⟩ ?_
              · intro W hW
                go_simp
              try simp only [Act.put, List.setIfInBounds_toArray, List.set_cons_zero, List.set_cons_succ, List.getElem_toArray, List.getElem_cons_zero, List.getElem_cons_succ]
              refine anyR_one (i := 7) (by kernel_rfl) rfl ?_
              intro K hK
              go_simp
              go_at_call 66
              refine (IR.out _ hS.1).mono ?_
              rintro e w9 ⟨rfl, b9⟩
              have hT := SS.out w9 (bel_trans hS.1 b9)
              refine hK.out _ _ (fun _ => hT) ?_
              clear hS b9
              have hS := hT
              clear hT
              clear hK K
              try simp only [Act.put, List.setIfInBounds_toArray, List.set_cons_zero, List.set_cons_succ, List.getElem_toArray, List.getElem_cons_zero, List.getElem_cons_succ]
              refine anyR_take (i := 8) (.bool false) rfl (by kernel_rfl) (by kernel_rfl) (by kernel_rfl) (by kernel_rfl) (fun _ _ _ h => h) (by assumption) ⟨by rfl, ?_⟩ ?_
              · intro W hW
                go_simp
              try simp only [Act.put, List.setIfInBounds_toArray, List.set_cons_zero, List.set_cons_succ, List.getElem_toArray, List.getElem_cons_zero, List.getElem_cons_succ]
              refine anyR_take (i := 9) (.bool false) rfl (by kernel_rfl) (by kernel_rfl) (by kernel_rfl) (by kernel_rfl) (fun _ _ _ h => h) (by assumption) ⟨by rfl, ?_⟩ ?_
              · intro W hW
                go_simp
              try simp only [Act.put, List.setIfInBounds_toArray, List.set_cons_zero, List.set_cons_succ, List.getElem_toArray, List.getElem_cons_zero, List.getElem_cons_succ]
              refine anyR_take (i := 10) (.pointer (some ⟨gG, 0, none⟩)) rfl (by kernel_rfl) (by kernel_rfl) (by kernel_rfl) (by kernel_rfl) (fun _ _ _ h => h) (by assumption) ⟨by rfl, ?_⟩ ?_
              · intro W hW
                go_simp
              try simp only [Act.put, List.setIfInBounds_toArray, List.set_cons_zero, List.set_cons_succ, List.getElem_toArray, List.getElem_cons_zero, List.getElem_cons_succ]
              refine anyR_take (i := 11) (.pointer (some ⟨gG, 0, none⟩)) rfl (by kernel_rfl) (by kernel_rfl) (by kernel_rfl) (by kernel_rfl) (fun _ _ _ h => h) (by assumption) ⟨by rfl, ?_⟩ ?_
              · intro W hW
                go_simp
              try simp only [Act.put, List.setIfInBounds_toArray, List.set_cons_zero, List.set_cons_succ, List.getElem_toArray, List.getElem_cons_zero, List.getElem_cons_succ]
              refine anyR_take (i := 12) (.pointer (some ⟨gG, 2, none⟩)) rfl (by kernel_rfl) (by kernel_rfl) (by kernel_rfl) (by kernel_rfl) (fun _ _ _ h => h) (by assumption) ⟨by rfl, ?_⟩ ?_
              · intro W hW
                go_simp
              try simp only [Act.put, List.setIfInBounds_toArray, List.set_cons_zero, List.set_cons_succ, List.getElem_toArray, List.getElem_cons_zero, List.getElem_cons_succ]
              refine anyR_take (i := 13) (.slice (some ⟨ab, ao, none⟩) n ac) rfl (by kernel_rfl) (by kernel_rfl) (by kernel_rfl) (by kernel_rfl) (fun _ _ _ h => h) (by assumption) ⟨by rfl, ?_⟩ ?_
              · intro W hW
                go_simp
              try simp only [Act.put, List.setIfInBounds_toArray, List.set_cons_zero, List.set_cons_succ, List.getElem_toArray, List.getElem_cons_zero, List.getElem_cons_succ]
              refine anyR_take (i := 14) (.slice (some ⟨gO, 0, none⟩) lO cO) rfl (by kernel_rfl) (by kernel_rfl) (by kernel_rfl) (by kernel_rfl) (fun _ _ _ h => h) (by assumption) ⟨by rfl, ?_⟩ ?_
              · intro W hW
                go_simp
              try simp only [Act.put, List.setIfInBounds_toArray, List.set_cons_zero, List.set_cons_succ, List.getElem_toArray, List.getElem_cons_zero, List.getElem_cons_succ]
              refine anyR_take (i := 15) (.slice (some ⟨gO, 0, none⟩) lO cO) rfl (by kernel_rfl) (by kernel_rfl) (by kernel_rfl) (by kernel_rfl) (fun _ _ _ h => h) (by assumption) ⟨by rfl, ?_⟩ ?_
              · intro W hW
                go_simp
              try simp only [Act.put, List.setIfInBounds_toArray, List.set_cons_zero, List.set_cons_succ, List.getElem_toArray, List.getElem_cons_zero, List.getElem_cons_succ]
              refine anyR_take (i := 16) (.int .i64 (lO : Nat)) rfl (by kernel_rfl) (by kernel_rfl) (by kernel_rfl) (by kernel_rfl) (fun _ _ _ h => h) (by assumption) ⟨by rfl, ?_⟩ ?_
              · intro W hW
                go_simp
              try simp only [Act.put, List.setIfInBounds_toArray, List.set_cons_zero, List.set_cons_succ, List.getElem_toArray, List.getElem_cons_zero, List.getElem_cons_succ]
              refine anyR_take (i := 17) (.int .i64 ((lO - 1 : Nat) : Int)) rfl (by kernel_rfl) (by kernel_rfl) (by kernel_rfl) (by kernel_rfl) (fun _ _ _ h => h) (by assumption) ⟨by rfl, ?_⟩ ?_
              · intro W hW
                go_simp
              try simp only [Act.put, List.setIfInBounds_toArray, List.set_cons_zero, List.set_cons_succ, List.getElem_toArray, List.getElem_cons_zero, List.getElem_cons_succ]
              refine anyR_take (i := 18) (.pointer (some ⟨gO, lO - 1, none⟩)) rfl (by kernel_rfl) (by kernel_rfl) (by kernel_rfl) (by kernel_rfl) (fun _ _ _ h => h) (by assumption) ⟨by rfl, ?_⟩ ?_
              · intro W hW
                go_simp
              try simp only [Act.put, List.setIfInBounds_toArray, List.set_cons_zero, List.set_cons_succ, List.getElem_toArray, List.getElem_cons_zero, List.getElem_cons_succ]
              refine anyR_take (i := 19) (.int .i64 x) rfl (by kernel_rfl) (by kernel_rfl) (by kernel_rfl) (by kernel_rfl) (fun _ _ _ h => h) (by assumption) ⟨by rfl, ?_⟩ ?_
              · intro W hW
                go_simp
              try simp only [Act.put, List.setIfInBounds_toArray, List.set_cons_zero, List.set_cons_succ, List.getElem_toArray, List.getElem_cons_zero, List.getElem_cons_succ]
              refine anyR_take (i := 20) (.pointer (some ⟨ab, ao + x, none⟩)) rfl (by kernel_rfl) (by kernel_rfl) (by kernel_rfl) (by kernel_rfl) (fun _ _ _ h => h) (by assumption) ⟨by rfl, ?_⟩ ?_
              · intro W hW
                go_simp
              try simp only [Act.put, List.setIfInBounds_toArray, List.set_cons_zero, List.set_cons_succ, List.getElem_toArray, List.getElem_cons_zero, List.getElem_cons_succ]
              refine anyR_take (i := 21) (.int .i64 (ax : Nat)) rfl (by kernel_rfl) (by kernel_rfl) (by kernel_rfl) (by kernel_rfl) (fun _ _ _ h => h) (by assumption) ⟨by rfl, ?_⟩ ?_
              · intro W hW
                go_simp
              try simp only [Act.put, List.setIfInBounds_toArray, List.set_cons_zero, List.set_cons_succ, List.getElem_toArray, List.getElem_cons_zero, List.getElem_cons_succ]
              refine anyR_take (i := 22) (.slice (some ⟨mb, mo, none⟩) M.length mc) rfl (by kernel_rfl) (by kernel_rfl) (by kernel_rfl) (by kernel_rfl) (fun _ _ _ h => h) (by assumption) ⟨by rfl, ?_⟩ ?_
              · intro W hW
                go_simp
              try simp only [Act.put, List.setIfInBounds_toArray, List.set_cons_zero, List.set_cons_succ, List.getElem_toArray, List.getElem_cons_zero, List.getElem_cons_succ]
              refine anyR_take (i := 23) (.int .i64 k) rfl (by kernel_rfl) (by kernel_rfl) (by kernel_rfl) (by kernel_rfl) (fun _ _ _ h => h) (by assumption) ⟨by rfl, ?_⟩ ?_
              · intro W hW
                go_simp
              try simp only [Act.put, List.setIfInBounds_toArray, List.set_cons_zero, List.set_cons_succ, List.getElem_toArray, List.getElem_cons_zero, List.getElem_cons_succ]
              refine anyR_take (i := 24) (.pointer (some ⟨mb, mo + k, none⟩)) rfl (by kernel_rfl) (by kernel_rfl) (by kernel_rfl) (by kernel_rfl) (fun _ _ _ h => h) (by assumption) ⟨by rfl, ?_⟩ ?_
              · intro W hW
                go_simp
              try simp only [Act.put, List.setIfInBounds_toArray, List.set_cons_zero, List.set_cons_succ, List.getElem_toArray, List.getElem_cons_zero, List.getElem_cons_succ]
              refine anyR_take (i := 25) (.int .i64 (q : Nat)) rfl (by kernel_rfl) (by kernel_rfl) (by kernel_rfl) (by kernel_rfl) (fun _ _ _ h => h) (by assumption) ⟨by rfl, ?_⟩ ?_
              · intro W hW
                go_simp
              try simp only [Act.put, List.setIfInBounds_toArray, List.set_cons_zero, List.set_cons_succ, List.getElem_toArray, List.getElem_cons_zero, List.getElem_cons_succ]
              refine anyR_one (i := 26) (by kernel_rfl) rfl ?_
              intro K hK
              go_simp
              go_at_call 67
              refine (AT.out _ hS.1).mono ?_
              rintro e w9 ⟨rfl, b9⟩
              have hT := SS.out w9 (bel_trans hS.1 b9)
              refine hK.out _ _ (fun _ => hT) ?_
              clear hS b9
              have hS := hT
              clear hT
              clear hK K
              try simp only [Act.put, List.setIfInBounds_toArray, List.set_cons_zero, List.set_cons_succ, List.getElem_toArray, List.getElem_cons_zero, List.getElem_cons_succ]
              refine anyR_take (i := 27) (.bool false) rfl (by kernel_rfl) (by kernel_rfl) (by kernel_rfl) (by kernel_rfl) (fun _ _ _ h => h) (by assumption) ⟨by rfl, ?_⟩ ?_
              · intro W hW
                go_simp
              try simp only [Act.put, List.setIfInBounds_toArray, List.set_cons_zero, List.set_cons_succ, List.getElem_toArray, List.getElem_cons_zero, List.getElem_cons_succ]
              refine anyR_take (i := 28) (.bool false) rfl (by kernel_rfl) (by kernel_rfl) (by kernel_rfl) (by kernel_rfl) (fun _ _ _ h => h) (by assumption) ⟨by rfl, ?_⟩ ?_
              · intro W hW
                go_simp
              try simp only [Act.put, List.setIfInBounds_toArray, List.set_cons_zero, List.set_cons_succ, List.getElem_toArray, List.getElem_cons_zero, List.getElem_cons_succ]
              refine anyR_done (by kernel_rfl) ?_ _
              refine NoPanic.normal ?_
              have U5 := Lib.hid hS.1
              have cm9 := (hS.1.cell (p := ⟨mb, mo + k, none⟩) mbl).trans cm
              have O9 := Lib.hid (HO.out.below hS.1)
              have X9 := Lib.hid (bel_trans HB.out hS.1)
              have s9 : w3.heap.size ≤ w9.heap.size := X9.out.size
              clear hS SS
              go_wp2_with (at_builtin; refine app_int_at w9 rfl _ _ rfl w3.heap.size (some ⟨gO, 0, none⟩) lO cO O rfl O9.out (q : Int) (by omega) (by omega) rfl (by omega) s9 ?_; intro A7 c7 w7 p1 p2 p3; obtain ⟨g7, rfl, _, _⟩ := p1.form (by omega); have P7 := Lib.hid p1; have X7 := Lib.hid (X9.out.grown p2 s9 (fun y hy => (O9.out.block y hy).1)); clear p1 p2 p3)
              have SS := Lib.hid (fun (W : World) (hW : Below w3.heap.size w3 W) => (show Below w3.heap.size w3 W ∧ W.cell? ⟨w.heap.size + 1, 1, none⟩ = some (.slice (some ⟨yb, yo, none⟩) ny yc) ∧ W.cell? ⟨mb, mo + k, none⟩ = some (.int .i64 q) ∧ W.cell? ⟨yb, yo + q, none⟩ = some (.int .i64 yv) from ⟨hW, (D3.out.below hW).cell 1 rfl, (hW.cell (p := ⟨mb, mo + k, none⟩) mbl3).trans cm3, (hW.cell (p := ⟨yb, yo + q, none⟩) ybl).trans cyv⟩))
              have O11 := Lib.hid (show OwnI (w7.drew.alloc (.cells #[.int .i64 yv] 2)) w3.heap.size (some ⟨g7, 0, none⟩) (lO + 1) c7 (O ++ [(q : Int)]) from (show OwnI w7.drew w3.heap.size (some ⟨g7, 0, none⟩) (lO + 1) c7 (O ++ [(q : Int)]) from P7.out).below (bel_alloc _ _))
              have HCN := Lib.hid (show (w7.drew.alloc (.cells #[.int .i64 yv] 2)).cell? ⟨w7.drew.heap.size, 0, none⟩ = some (.int .i64 yv) from (Cs.new w7.drew [.int .i64 yv] 2).cell 0 rfl)
              have s11 : w3.heap.size ≤ (w7.drew.alloc (.cells #[.int .i64 yv] 2)).heap.size := by have := X7.out.size; simp; omega
              have LZ := Lib.hid (show (O ++ [(q : Int)] ++ [yv]).length = lO + 1 + 1 by rw [List.length_append, List.length_append, HLO.out]; rfl)
              have OZ := Lib.hid (show outD a Y M (k + 1) = O ++ [(q : Int)] ++ [yv] by rw [OS.out]; simp)
              clear cm9
              refine wp_region_noPanic ?_
              refine wp_region_R (inFirst (fun W => Below w3.heap.size w3 W ∧ W.cell? ⟨w.heap.size + 1, 1, none⟩ = some (.slice (some ⟨yb, yo, none⟩) ny yc) ∧ W.cell? ⟨mb, mo + k, none⟩ = some (.int .i64 q) ∧ W.cell? ⟨yb, yo + q, none⟩ = some (.int .i64 yv)) 11) (by kernel_rfl) ?_
              have hS := SS.out w7.drew ⟨X7.out.os, X7.out.tape, X7.out.output, X7.out.size, X7.out.block⟩
              refine anyR_take (i := 0) (.slice (some ⟨g7, 0, none⟩) (lO + 1) c7) rfl (by kernel_rfl) (by kernel_rfl) (by kernel_rfl) (by kernel_rfl) (fun _ _ _ h => h) (by assumption) ⟨by rfl, ?_⟩ ?_
              · intro W hW
                go_simp
              try simp only [Act.put, List.setIfInBounds_toArray, List.set_cons_zero, List.set_cons_succ, List.getElem_toArray, List.getElem_cons_zero, List.getElem_cons_succ]
              refine anyR_take (i := 1) (.pointer (some ⟨w.heap.size + 1, 1, none⟩)) rfl (by kernel_rfl) (by kernel_rfl) (by kernel_rfl) (by kernel_rfl) (fun _ _ _ h => h) (by assumption) ⟨by rfl, ?_⟩ ?_
              · intro W hW
                go_simp
              try simp only [Act.put, List.setIfInBounds_toArray, List.set_cons_zero, List.set_cons_succ, List.getElem_toArray, List.getElem_cons_zero, List.getElem_cons_succ]
              refine anyR_take (i := 2) (.slice (some ⟨yb, yo, none⟩) ny yc) rfl (by kernel_rfl) (by kernel_rfl) (by kernel_rfl) (by kernel_rfl) (fun _ _ _ h => h) (by assumption) ⟨by rfl, ?_⟩ ?_
              · intro W hW
                go_simp
              try simp only [Act.put, List.setIfInBounds_toArray, List.set_cons_zero, List.set_cons_succ, List.getElem_toArray, List.getElem_cons_zero, List.getElem_cons_succ]
              refine anyR_take (i := 3) (.slice (some ⟨mb, mo, none⟩) M.length mc) rfl (by kernel_rfl) (by kernel_rfl) (by kernel_rfl) (by kernel_rfl) (fun _ _ _ h => h) (by assumption) ⟨by rfl, ?_⟩ ?_
              · intro W hW
                go_simp
              try simp only [Act.put, List.setIfInBounds_toArray, List.set_cons_zero, List.set_cons_succ, List.getElem_toArray, List.getElem_cons_zero, List.getElem_cons_succ]
              refine anyR_take (i := 4) (.int .i64 k) rfl (by kernel_rfl) (by kernel_rfl) (by kernel_rfl) (by kernel_rfl) (fun _ _ _ h => h) (by assumption) ⟨by rfl, ?_⟩ ?_
              · intro W hW
                go_simp
              try simp only [Act.put, List.setIfInBounds_toArray, List.set_cons_zero, List.set_cons_succ, List.getElem_toArray, List.getElem_cons_zero, List.getElem_cons_succ]
              refine anyR_take (i := 5) (.pointer (some ⟨mb, mo + k, none⟩)) rfl (by kernel_rfl) (by kernel_rfl) (by kernel_rfl) (by kernel_rfl) (fun _ _ _ h => h) (by assumption) ⟨by rfl, ?_⟩ ?_
              · intro W hW
                go_simp
              try simp only [Act.put, List.setIfInBounds_toArray, List.set_cons_zero, List.set_cons_succ, List.getElem_toArray, List.getElem_cons_zero, List.getElem_cons_succ]
              refine anyR_take (i := 6) (.int .i64 (q : Nat)) rfl (by kernel_rfl) (by kernel_rfl) (by kernel_rfl) (by kernel_rfl) (fun _ _ _ h => h) (by assumption) ⟨by rfl, ?_⟩ ?_
              · intro W hW
                go_simp
              try simp only [Act.put, List.setIfInBounds_toArray, List.set_cons_zero, List.set_cons_succ, List.getElem_toArray, List.getElem_cons_zero, List.getElem_cons_succ]
              refine anyR_take (i := 7) (.pointer (some ⟨yb, yo + q, none⟩)) rfl (by kernel_rfl) (by kernel_rfl) (by kernel_rfl) (by kernel_rfl) (fun _ _ _ h => h) (by assumption) ⟨by rfl, ?_⟩ ?_
              · intro W hW
                go_simp
              try simp only [Act.put, List.setIfInBounds_toArray, List.set_cons_zero, List.set_cons_succ, List.getElem_toArray, List.getElem_cons_zero, List.getElem_cons_succ]
              refine anyR_take (i := 8) (.int .i64 yv) rfl (by kernel_rfl) (by kernel_rfl) (by kernel_rfl) (by kernel_rfl) (fun _ _ _ h => h) (by assumption) ⟨by rfl, ?_⟩ ?_
              · intro W hW
                go_simp
              try simp only [Act.put, List.setIfInBounds_toArray, List.set_cons_zero, List.set_cons_succ, List.getElem_toArray, List.getElem_cons_zero, List.getElem_cons_succ]
              refine anyR_one (i := 9) (by kernel_rfl) rfl ?_
              intro K hK
              go_simp
              have hT := SS.out _ (bel_trans hS.1 (bel_alloc w7.drew (.cells #[.int .i64 yv] 2)))
              refine hK.out _ _ (fun _ => hT) ?_
              clear hS
              have hS := hT
              clear hT
              clear hK K
              try simp only [Act.put, List.setIfInBounds_toArray, List.set_cons_zero, List.set_cons_succ, List.getElem_toArray, List.getElem_cons_zero, List.getElem_cons_succ]
              refine anyR_one (i := 10) (by kernel_rfl) rfl ?_
              intro K hK
              refine step_app_int _ (by rfl) _ _ (by rfl) w3.heap.size (some ⟨g7, 0, none⟩) (lO + 1) c7 _ (by rfl) O11.out yv yv1 yv2 w7.drew.heap.size (by rfl) HCN.out (by omega) s11 ?_
              intro A8 c8 w8 p1 p2 p3
              obtain ⟨g8, rfl, _, _⟩ := p1.form (by omega)
              have P8 := Lib.hid p1
              have hT := SS.out w8 (hS.1.grown p2 s11 (fun y hy => (O11.out.block y hy).1))
              refine hK.out _ _ (fun _ => hT) ?_
              clear hS p1 p2 p3
              have hS := hT
              clear hT
              clear hK K
              try simp only [Act.put, List.setIfInBounds_toArray, List.set_cons_zero, List.set_cons_succ, List.getElem_toArray, List.getElem_cons_zero, List.getElem_cons_succ]
              refine anyR_one (i := 11) (by kernel_rfl) rfl ?_
              intro K hK
              go_simp
              refine hK.out _ _ (fun h => absurd h (by decide)) ?_
              clear hK K
              try simp only [Act.put, List.setIfInBounds_toArray, List.set_cons_zero, List.set_cons_succ, List.getElem_toArray, List.getElem_cons_zero, List.getElem_cons_succ]
              refine anyR_done (by kernel_rfl) ?_ _
              refine NoPanic.normal ?_
              have XE := Lib.hid hS.1
              clear hS SS
              go_wp2_with fail
              go_roundw
              case rel => exact ⟨k + 1, g8, c8, by omega, by go_num, by rw [OZ.out, LZ.out], by rw [OZ.out, LZ.out]; exact P8.out, AN.out, XE.out⟩
              case measure => simp [intOf]; omega
        · have hkk : k = M.length := by omega
          have dk := decide_eq_false (show ¬ (k : Int) < (M.length : Int) by omega)
          have DP := Lib.hid (show DiscP n es a R Y M from ⟨ST.out, by omega, fun i hi => AL.out i (by omega)⟩)
          have EO := Lib.hid (show outD a Y M k = outD a Y M M.length by rw [hkk])
          have OF := Lib.hid (HO.out.mono (b2 := w.heap.size) B3.out.size)
          clear hkk ivy
          go_wp2_with fail
          exact bodyPost_ret (v := .tuple #[.slice (some ⟨gO, 0, none⟩) (outD a Y M k).length cO, .bool true]) (by simp [results, Try.results18, go_sem]) rfl ⟨outD a Y M k, true, some ⟨gO, 0, none⟩, cO, fun _ => ⟨EO.out, rfl⟩, fun hn => absurd DP.out hn, rfl, OF.out, B2.out⟩
end Go.Proofs.Yteejfjgofpolkaa
