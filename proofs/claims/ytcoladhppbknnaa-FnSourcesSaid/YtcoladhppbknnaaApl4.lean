/- A patch applied. -/
import Derived.Test.YtcoladhppbknnaaApl2
import Derived.Test.YtcoladhppbknnaaPhase
namespace Go.Proofs.Ytcoladhppbknnaa
set_option linter.unusedVariables false
set_option linter.unusedSimpArgs false
set_option maxRecDepth 100000
open Go.RowKit Go.Deep
theorem wpl_app {P : Program} {w : World} {ops : Array Oper} {rest : List Oper} {o : Oper} {a : Act} {Q : Exit → Act → World → Prop} (hgd : o.guard = none) (d s : Operand) (t : TypeId)
    (ho : o.op = .call { callee := .builtin .append, args := #[d, s], argTypes := #[t, t] }) {v u : Value} (hd : a.eval d = v) (hs : a.eval s = u) {v' : Value} {w' : World}
    (hr : (Builtin.append_ #[t, t] o.type #[v, u]).run P w = .ok v' w') (h : wpList P ops Q rest (a.put o.dst v') w') : wpList P ops Q (o :: rest) a w := by
  refine wpList_plain hgd fun _ hK => ?_
  unfold Oper.wp execOp
  simp only [ho, resolve, invoke, builtin, Sem.run_bind, Sem.run_pure, Result.andThen_ok, List.map_toArray, List.map_cons, List.map_nil, hd, hs, hr]
  exact hK _ _ h
theorem OwnR.some_of {t s : Nat} {w w' : World} {base g n c n' c' m : Nat} {A' : Option Addr} {rs : List (List Value)} (h : OwnR t s w' base A' m c' rs) (hn : NewBlk w (.slice (some ⟨g, 0, none⟩) n c) (.slice A' n' c')) : ∃ g', A' = some ⟨g', 0, none⟩ ∧ base ≤ g' ∧ g' < w'.heap.size := by
  rcases h.1.2 with ⟨hv, h0⟩ | ⟨g', cap, cur, hv, hb, hg, _⟩
  · simp only [Value.slice.injEq] at hv
    obtain ⟨rfl, _, _⟩ := hv
    rcases hn with e | ⟨x, e, _⟩
    · simp [Value.ownBlock] at e
    · simp [Value.ownBlock] at e
  · simp only [Value.slice.injEq] at hv
    exact ⟨g', hv.1, hb, (Array.getElem?_eq_some_iff.1 hg).1⟩
theorem apps_take {s : List Ar} {p : List Ed} {k : Nat} {e : Ed} (h : p[k]? = some e) : apps s (p.take (k + 1)) = app1 (apps s (p.take k)) e := by
  rw [take_snoc' h]
  unfold apps
  rw [List.foldl_append]
  rfl
theorem apps_len {p : List Ed} (hp : ∀ e ∈ p, edB e = true) : ∀ s : List Ar, (apps s p).length ≤ s.length + p.length := by
  induction p with
  | nil => intro s; exact Nat.le_refl _
  | cons e p ih =>
    intro s
    have h1 := app1_len s e (by rcases edB_cases (hp e (List.mem_cons_self ..)) with ⟨k, _⟩ | ⟨k, _⟩ | ⟨k, _⟩ <;> simp [k])
    have h2 := ih (fun x hx => hp x (List.mem_cons_of_mem _ hx)) (app1 s e)
    show (apps (app1 s e) p).length ≤ _
    rw [List.length_cons]
    split at h1 <;> omega
theorem POk.take {p : List Ed} (h : POk p) (k : Nat) : POk (p.take k) := h.sub (List.take_sublist k p)
theorem edo_take_none {p : List Ed} (h : POk p) {k : Nat} {e : Ed} (he : p[k]? = some e) : edo (p.take k) e.id = none := by
  refine edo_none fun x hx c => ?_
  obtain ⟨i, hi, rfl⟩ := List.mem_take_iff_getElem.1 hx
  obtain ⟨hk, rfl⟩ := List.getElem?_eq_some_iff.1 he
  have := List.pairwise_iff_getElem.1 h.srt i k (by omega) hk (by omega)
  omega
/-- The statute when the k-th edit comes. -/
theorem at_edit {s : List Ar} {p : List Ed} (hs : SOk s) (hp : POk p) {k : Nat} {e : Ed} (he : p[k]? = some e) (hf : Fit s (p.take k)) (h : fnd s e.id = e.old) :
    SOk (apps s (p.take k)) ∧ fnd (apps s (p.take k)) e.id = e.old ∧ Fit s (p.take (k + 1)) := by
  obtain ⟨h1, h2⟩ := apps_ok hs (hp.take k) hf
  refine ⟨h1, by rw [h2, nw_no (edo_take_none hp he), h], ?_⟩
  rw [take_snoc' he]
  intro x hx
  rcases List.mem_append.1 hx with hx | hx
  · exact hf x hx
  · rw [List.mem_singleton] at hx
    subst hx
    exact h
theorem map_erase {α β : Type} (f : α → β) (l : List α) (i : Nat) : (l.map f).eraseIdx i = (l.eraseIdx i).map f := by
  rw [List.eraseIdx_eq_take_drop_succ, List.eraseIdx_eq_take_drop_succ, List.map_append, List.map_take, List.map_drop]
def AppR (s : List Ar) (p : List Ed) (w : World) (e : Ending) (w' : World) : Prop :=
  ((Fit s p ∧ ∃ g L oc, e = .returned (.tuple #[.slice (some ⟨g, 0, none⟩) L oc, .bool (decide ((L : Int) ≤ 8))]) ∧ OwnR 70 2 w' w.heap.size (some ⟨g, 0, none⟩) L oc ((apps s p).map Ar.vals)) ∨
    (¬ Fit s p ∧ e = .returned (.tuple #[.slice none 0 0, .bool false]))) ∧ Below w.heap.size w w'
set_option maxHeartbeats 4000000 in
theorem applied_ok (A : Option Addr) (n c : Nat) (s : List Ar) (B : Option Addr) (m d : Nat) (p : List Ed) (w : World) (h : Ars w A n c s) (k : Eds w B m d p) (hs : SOk s) (hsl : s.length ≤ 8) (hp : POk p) (hpl : p.length ≤ 16) :
    Calls Try.prog 75 #[.slice A n c, .slice B m d] w (AppR s p w) := by
  obtain rfl : s.length = n := h.len
  obtain rfl : p.length = m := k.len
  have HA := Lib.hid h
  have HK := Lib.hid k
  have HS := Lib.hid hs
  have HP := Lib.hid hp
  obtain ⟨i0, hi0, hz0, hz1, hz2⟩ := info_parts info_ar
  have b0 := bel_alloc w (.cells #[] 70)
  have O0 : OwnR 70 2 (w.alloc (.cells #[] 70)) w.heap.size (some ⟨w.heap.size, 0, none⟩) 0 0 [] := ownR_lits (rs := []) w (by simp) (by unfold maxLen; simp)
  obtain ⟨A1, c1, w1, hrun, r1, g1, nb⟩ := run_app_recsN (P := Try.prog) (w.alloc (.cells #[] 70)) 37 37 70 w.heap.size i0 _ 2 24 Try.underlying37 hi0 hz0 hz1 hz2 rfl (by omega) _ 0 0 [] O0 A s.length c (s.map Ar.vals) (h.below b0).1 ar2 ar1 (by unfold maxLen; omega) (by omega) (by simp)
  rw [Nat.zero_add] at hrun r1
  obtain ⟨ga, rfl, ga1, ga2⟩ := OwnR.some_of r1 nb
  rw [List.nil_append] at r1
  have R1 := Lib.hid r1
  have RUN := Lib.hid hrun
  have B1 := Lib.hid (b0.grown g1 b0.size (fun x hx => (O0.block x hx).1))
  clear h k hs hp b0 O0 hrun r1 g1 nb
  go_enter Try.func75, Try.ntmps75
  go_wp2_with (at_builtin; refine wpl_app rfl _ _ _ rfl rfl rfl RUN.out ?_)
  go_loopw [6, 16] (fun s6 t wr => ∃ (k L g oc : Nat), k ≤ p.length ∧ s6 = .slice (some ⟨g, 0, none⟩) L oc ∧ t = .int .i64 k ∧ Fit s (p.take k) ∧ OwnR 70 2 wr w.heap.size (some ⟨g, 0, none⟩) L oc ((apps s (p.take k)).map Ar.vals) ∧ Below w.heap.size w wr) (fun _ t _ => p.length - (intOf t).toNat)
  case atStart => exact ⟨0, s.length, ga, c1, Nat.zero_le _, rfl, rfl, by intro e he; simp at he, R1.out, B1.out⟩
  case round =>
    obtain ⟨k, L, g, oc, hk, rfl, rfl, hf, ho, hb⟩ := hrel
    have HF := Lib.hid hf
    have HO := Lib.hid ho
    have HB := Lib.hid hb
    have hL : (apps s (p.take k)).length = L := by have := ho.2.1; simpa using this
    have hL2 := apps_len (HP.out.take k).ed s
    rw [hL, List.length_take] at hL2
    have HL := Lib.hid hL
    clear hf ho hb R1 B1 RUN hL
    by_cases hlt : k < p.length
    · have d0 := decide_eq_true (show (k : Int) < (p.length : Int) by omega)
      obtain ⟨b, off, a, rfl, hbw, ha, hok, c0, c1', c2, c3⟩ := (HK.out.below HB.out).at hlt
      have k0 : (0 : Int) ≤ (k : Int) := by omega
      have k1 : (k : Int) < (p.length : Int) := by omega
      have bx := bel_alloc wr (.cells #[.int .i64 a.kind, .int .i64 a.id, .string a.old, .string a.new] 74)
      have C := Cs.new wr [.int .i64 a.kind, .int .i64 a.id, .string a.old, .string a.new] 74
      have B2 := Lib.hid (bel_trans HB.out bx)
      have O2 := Lib.hid (HO.out.below bx)
      have CC := Lib.hid C
      have AT := Lib.hid (at_edit HS.out HP.out ha.out HF.out)
      have NX := Lib.hid (apps_take (s := s) ha.out)
      have HE := Lib.hid (HP.out.ed a (List.mem_of_getElem? ha.out))
      clear bx C
      go_wp2_with fail
      obtain ⟨w2, hw2⟩ : ∃ x, wr.alloc (.cells #[.int .i64 a.kind, .int .i64 a.id, .string a.old, .string a.new] 74) = x := ⟨_, rfl⟩
      obtain ⟨g8, hg8⟩ : ∃ x, wr.heap.size = x := ⟨_, rfl⟩
      have hOl : g < wr.heap.size := (HO.out.block g rfl).2
      rw [hw2] at B2 O2 CC
      rw [hg8] at CC hOl
      try rw [hw2]
      try rw [hg8]
      clear hw2 hg8 c0 c1' c2 c3 HO HB
      have hgb : g8 < w2.heap.size := CC.out.1
      have szw := B2.out.size
      have SS := Lib.hid (fun (W : World) (hW : Below w2.heap.size w2 W) => (show Below w2.heap.size w2 W ∧ W.cell? ⟨g8, 1, none⟩ = some (.int .i64 a.id) ∧ W.cell? ⟨g8, 2, none⟩ = some (.string a.old) from ⟨hW, (hW.cell (p := ⟨g8, 1, none⟩) hgb).trans (CC.out.cell 1 rfl), (hW.cell (p := ⟨g8, 2, none⟩) hgb).trans (CC.out.cell 2 rfl)⟩))
      by_cases hfit : fnd s a.id = a.old
      · have HFIT := Lib.hid hfit
        have eqv : (fnd s a.id).toList = a.old.toList := by rw [hfit]
        clear hfit
        refine wp_region_noPanic ?_
        refine wp_region_R (inFirst (fun W => Below w2.heap.size w2 W ∧ W.cell? ⟨g8, 1, none⟩ = some (.int .i64 a.id) ∧ W.cell? ⟨g8, 2, none⟩ = some (.string a.old)) 7) (by kernel_rfl) ?_
        have hS := SS.out w2.drew ⟨rfl, rfl, rfl, Nat.le_refl _, fun _ _ => rfl⟩
        refine anyR_take (i := 0) (.slice A s.length c) rfl (by kernel_rfl) (by kernel_rfl) (by kernel_rfl) (by kernel_rfl) (fun _ _ _ h => h) (by assumption) ⟨by rfl, ?_⟩ ?_
        · intro W hW
          go_simp
        try simp only [Act.put, List.setIfInBounds_toArray, List.set_cons_zero, List.set_cons_succ, List.getElem_toArray, List.getElem_cons_zero, List.getElem_cons_succ]
        refine anyR_take (i := 1) (.pointer (some ⟨g8, 1, none⟩)) rfl (by kernel_rfl) (by kernel_rfl) (by kernel_rfl) (by kernel_rfl) (fun _ _ _ h => h) (by assumption) ⟨by rfl, ?_⟩ ?_
        · intro W hW
          go_simp
        try simp only [Act.put, List.setIfInBounds_toArray, List.set_cons_zero, List.set_cons_succ, List.getElem_toArray, List.getElem_cons_zero, List.getElem_cons_succ]
        refine anyR_take (i := 2) (.int .i64 a.id) rfl (by kernel_rfl) (by kernel_rfl) (by kernel_rfl) (by kernel_rfl) (fun _ _ _ h => h) (by assumption) ⟨by rfl, ?_⟩ ?_
        · intro W hW
          go_simp
        try simp only [Act.put, List.setIfInBounds_toArray, List.set_cons_zero, List.set_cons_succ, List.getElem_toArray, List.getElem_cons_zero, List.getElem_cons_succ]
        refine anyR_take (i := 4) (.pointer (some ⟨g8, 2, none⟩)) rfl (by kernel_rfl) (by kernel_rfl) (by kernel_rfl) (by kernel_rfl) (fun _ _ _ h => h) (by assumption) ⟨by rfl, ?_⟩ ?_
        · intro W hW
          go_simp
        try simp only [Act.put, List.setIfInBounds_toArray, List.set_cons_zero, List.set_cons_succ, List.getElem_toArray, List.getElem_cons_zero, List.getElem_cons_succ]
        refine anyR_take (i := 5) (.string a.old) rfl (by kernel_rfl) (by kernel_rfl) (by kernel_rfl) (by kernel_rfl) (fun _ _ _ h => h) (by assumption) ⟨by rfl, ?_⟩ ?_
        · intro W hW
          go_simp
        try simp only [Act.put, List.setIfInBounds_toArray, List.set_cons_zero, List.set_cons_succ, List.getElem_toArray, List.getElem_cons_zero, List.getElem_cons_succ]
        refine anyR_one (i := 3) (by kernel_rfl) rfl ?_
        intro K hK
        go_simp
        refine (textOf_ok A s.length c s a.id _ (HA.out.below (bel_trans B2.out hS.1))).mono ?_
        rintro e w9 ⟨rfl, b9⟩
        have hT := SS.out w9 (bel_trans hS.1 b9)
        refine hK.out _ _ (fun _ => hT) ?_
        clear hS b9
        have hS := hT
        clear hT
        clear hK K
        try simp only [Act.put, List.setIfInBounds_toArray, List.set_cons_zero, List.set_cons_succ, List.getElem_toArray, List.getElem_cons_zero, List.getElem_cons_succ]
        refine anyR_take (i := 6) (.bool false) rfl (by kernel_rfl) (by kernel_rfl) (by kernel_rfl) (by kernel_rfl) (fun _ _ _ h => h) (by assumption) ⟨by rfl, ?_⟩ ?_
        · intro W hW
          go_simp
        try simp only [Act.put, List.setIfInBounds_toArray, List.set_cons_zero, List.set_cons_succ, List.getElem_toArray, List.getElem_cons_zero, List.getElem_cons_succ]
        refine anyR_done (by kernel_rfl) ?_ _
        refine NoPanic.normal ?_
        obtain ⟨h1, h2, h3⟩ := AT.out HFIT.out
        have HF' := Lib.hid h3
        have HSO := Lib.hid h1
        have HFO := Lib.hid h2
        obtain ⟨o, ho⟩ : ∃ x, apps s (p.take k) = x := ⟨_, rfl⟩
        rw [ho] at HSO HFO NX HL
        have BB := Lib.hid (bel_trans B2.out hS.1)
        have C3 := Lib.hid (CC.out.below hS.1)
        have O3 := Lib.hid (O2.out.below hS.1)
        rw [ho] at O3
        have sz9 := hS.1.size
        clear h1 h2 h3 hS SS CC O2 B2 ho eqv
        have ART := Lib.hid (O3.out.ars HSO.out.ok)
        have AO := Lib.hid (article_ok (some ⟨g, 0, none⟩) L oc o a.id w9 ART.out)
        have lO : o.length ≤ 24 := by rw [HL.out]; omega
        have w91 := C3.out.cell 1 rfl
        go_wp2_with fail
        refine AO.out.mono ?_
        rintro e w10 ⟨rfl, b10⟩
        have B10 := Lib.hid (bel_trans BB.out b10)
        have C10 := Lib.hid (C3.out.below b10)
        have O10 := Lib.hid (O3.out.below b10)
        have s10 := b10.size
        have x0 := C10.out.cell 0 rfl
        have x1 := C10.out.cell 1 rfl
        have x3 := C10.out.cell 3 rfl
        clear b10 AO ART C3 O3 BB w91
        rcases edB_cases HE.out with ⟨kk, ho1, ho2⟩ | ⟨kk, ho1, ho2⟩ | ⟨kk, ho1, ho2, ho3⟩
        · rw [kk] at x0
          have A1 := Lib.hid (show app1 o a = inA o ⟨a.id, a.new⟩ by unfold app1; rw [if_neg (by omega), if_neg (by omega)])
          have hno : idxI o (fun x => x.id == a.id) = -1 := by
            refine idxI_no ?_
            rw [List.any_eq_false]
            intro x hx
            have h4 := fnd_mem HSO.out.srt hx
            intro h5
            have h5 : x.id = a.id := by simpa using h5
            rw [h5, HFO.out, ho1] at h4
            exact senB_ne (HSO.out.txt x hx) h4.symm
          rw [hno]
          clear ho1 ho2 hno kk
          have IG := Lib.hid (idx_gt (some ⟨g, 0, none⟩) L oc o g8 a.id w10 (O10.out.ars HSO.out.ok) C10.out.1 x1)
          go_wp2_with fail
          refine IG.out.mono ?_
          rintro e w11 ⟨rfl, b11⟩
          have B11 := Lib.hid (bel_trans B10.out b11)
          have C11 := Lib.hid (C10.out.below b11)
          have O11 := Lib.hid (O10.out.below b11)
          have s11 := b11.size
          have bv := bel_alloc w11 (.cells #[.int .i64 a.id, .string a.new] 70)
          have V12 := Lib.hid (Blk.new w11 70 #[.int .i64 a.id, .string a.new])
          have B12 := Lib.hid (bel_trans B11.out bv)
          have O12 := Lib.hid (O11.out.below bv)
          have z1 := C11.out.cell 1 rfl
          have z3 := C11.out.cell 3 rfl
          have hgne : w11.heap.size ≠ g := by omega
          have IX := Lib.hid (ins_ix o ⟨a.id, a.new⟩)
          clear b11 IG C10 B10 O10 x0 x1 x3
          have INS : ∀ i, i ≤ L → ixG o a.id = i → Calls Try.prog 113 #[.slice (some ⟨g, 0, none⟩) L oc, .int .i64 i, .slice (some ⟨w11.heap.size, 0, none⟩) 1 1] (w11.alloc (.cells #[.int .i64 a.id, .string a.new] 70)) fun e w' => ∃ A' c', e = .returned (.slice A' (L + 1) c') ∧ OwnR 70 2 w' w.heap.size A' (L + 1) c' ((app1 o a).map Ar.vals) ∧ (w11.alloc (.cells #[.int .i64 a.id, .string a.new] 70)).grownBy w' (some g) := by
            intro i hi hix
            refine (insert_ok _ w.heap.size g L oc i (o.map Ar.vals) O12.out ar1 hi (by have := HL.out; omega) B12.out.size w11.heap.size [.int .i64 a.id, .string a.new] V12.out rfl (by intro u hu; simp at hu; rcases hu with rfl | rfl <;> rfl) hgne).mono ?_
            rintro e w' ⟨A', c', he, hr', hg'⟩
            refine ⟨A', c', he, ?_, hg'⟩
            rw [A1.out, ← IX.out, show ixG o (⟨a.id, a.new⟩ : Ar).id = i from hix, List.map_append, List.map_cons, List.map_take, List.map_drop]
            exact hr'
          have IN := Lib.hid INS
          clear INS bv
          rcases idxI_cases o (fun x => decide (a.id < x.id)) with ⟨i, x, hx, hpx, htx, hi⟩ | ⟨htx, hi⟩
          · rw [hi]
            have hil : i < L := by have := (List.getElem?_eq_some_iff.1 hx).1; have := HL.out; omega
            have IC := Lib.hid (IN.out i (by omega) (findIdx_at hx hpx htx))
            have di : decide ((i : Int) < 0) = false := decide_eq_false (by omega)
            clear hi hx hpx htx
            go_wp2_with fail
            refine IC.out.mono ?_
            rintro e w13 ⟨A', c', rfl, p1, p2⟩
            obtain ⟨g', rfl, _, _⟩ := p1.form (by omega)
            have B13 := Lib.hid (B12.out.grown p2 B12.out.size (fun x hx => by injection hx with hx; have := (O12.out.block g rfl).1; omega))
            have R13 := Lib.hid p1
            clear p1 p2 IC
            go_wp2_with fail
            go_roundw
            case rel => exact ⟨k + 1, L + 1, g', c', by omega, rfl, by go_num, HF'.out, by rw [NX.out]; exact R13.out, B13.out⟩
            case measure => simp [intOf]; omega
          · rw [hi]
            have IC := Lib.hid (IN.out L (Nat.le_refl _) (by
              unfold ixG
              rw [List.findIdx_eq_length_of_false (by rw [List.any_eq_false] at htx; intro x hx; simpa using htx x hx), HL.out]))
            clear hi htx
            go_wp2_with fail
            refine IC.out.mono ?_
            rintro e w13 ⟨A', c', rfl, p1, p2⟩
            obtain ⟨g', rfl, _, _⟩ := p1.form (by omega)
            have B13 := Lib.hid (B12.out.grown p2 B12.out.size (fun x hx => by injection hx with hx; have := (O12.out.block g rfl).1; omega))
            have R13 := Lib.hid p1
            clear p1 p2 IC
            go_wp2_with fail
            go_roundw
            case rel => exact ⟨k + 1, L + 1, g', c', by omega, rfl, by go_num, HF'.out, by rw [NX.out]; exact R13.out, B13.out⟩
            case measure => simp [intOf]; omega
        · rw [kk] at x0
          have A1 := Lib.hid (show app1 o a = rmA o a.id by unfold app1; rw [if_pos kk])
          rcases idxI_cases o (fun x => x.id == a.id) with ⟨i, x, hx, hpx, htx, hi⟩ | ⟨htx, hi⟩
          · rw [hi]
            have hil : i < L := by have := (List.getElem?_eq_some_iff.1 hx).1; have := HL.out; omega
            have IXA := Lib.hid (show ixA o a.id = i from findIdx_at hx hpx htx)
            have DL := Lib.hid (delete_ok w10 w.heap.size g L oc i (o.map Ar.vals) O10.out ar1 hil (by omega))
            have ew : IntKind.i64.wrap ((i : Int) + 1) = (i : Int) + 1 := IntWalk.i64_in _ (by omega)
            clear hi hx hpx htx ho1 ho2 kk
            go_wp2_with fail
            refine DL.out.mono ?_
            rintro e w13 ⟨rfl, p1, p2⟩
            have B13 := Lib.hid (B10.out.grown p2 B10.out.size (fun x hx => by injection hx with hx; have := (O10.out.block g rfl).1; omega))
            have R13 := Lib.hid p1
            clear p1 p2 DL
            go_wp2_with fail
            go_roundw
            case rel => exact ⟨k + 1, L - 1, g, oc, by omega, rfl, by go_num, HF'.out, by rw [NX.out, A1.out, ← erase_ix, IXA.out, ← map_erase]; exact R13.out, B13.out⟩
            case measure => simp [intOf]; omega
          · exfalso
            have := fnd_any htx
            rw [HFO.out] at this
            exact senB_ne ho1 this
        · rw [kk] at x0
          have A1 := Lib.hid (show app1 o a = stA o a.id ⟨a.id, a.new⟩ by unfold app1; rw [if_neg (by omega), if_pos kk])
          rcases idxI_cases o (fun x => x.id == a.id) with ⟨i, x, hx, hpx, htx, hi⟩ | ⟨htx, hi⟩
          · rw [hi]
            have hil : i < L := by have := (List.getElem?_eq_some_iff.1 hx).1; have := HL.out; omega
            have IXA := Lib.hid (show ixA o a.id = i from findIdx_at hx hpx htx)
            have hxm : (o.map Ar.vals)[i]? = some x.vals := by rw [List.getElem?_map, hx]; rfl
            obtain ⟨t1, t2⟩ := O10.out.put (i := 1) (.string a.new) hxm (by omega)
            have cx := O10.out.cell hxm (i := 1) (v := .string x.text) rfl
            have fx := O10.out.free (i * 2 + 1)
            have hxe : x.id = a.id := by simpa using hpx
            have R13 := Lib.hid (show OwnR 70 2 (w10.setCell ⟨g, i * 2 + 1, none⟩ (.string a.new)) w.heap.size (some ⟨g, 0, none⟩) L oc ((app1 o a).map Ar.vals) from by
              rw [A1.out, ← set_ix, IXA.out, List.map_set]
              have e2 : x.vals.set 1 (.string a.new) = (⟨a.id, a.new⟩ : Ar).vals := by
                show [Value.int .i64 x.id, .string a.new] = [.int .i64 a.id, .string a.new]
                rw [hxe]
              rw [← e2]
              exact t1)
            have B13 := Lib.hid (B10.out.grown t2 B10.out.size (fun x hx => by injection hx with hx; have := (O10.out.block g rfl).1; omega))
            have i0' : (0 : Int) ≤ (i : Int) := by omega
            have i1' : (i : Int) < (L : Int) := by omega
            clear hi hx hpx htx ho1 ho2 ho3 kk hxm t1 t2 hxe
            go_wp2_with fail
            go_roundw
            case rel => exact ⟨k + 1, L, g, oc, by omega, rfl, by go_num, HF'.out, by rw [NX.out]; exact R13.out, B13.out⟩
            case measure => simp [intOf]; omega
          · exfalso
            have := fnd_any htx
            rw [HFO.out] at this
            exact senB_ne ho1 this
      · have HFIT := Lib.hid hfit
        have eqv : ¬ (fnd s a.id).toList = a.old.toList := fun hh => hfit (bytes_ext.1 hh)
        clear hfit
        refine wp_region_noPanic ?_
        refine wp_region_R (inFirst (fun W => Below w2.heap.size w2 W ∧ W.cell? ⟨g8, 1, none⟩ = some (.int .i64 a.id) ∧ W.cell? ⟨g8, 2, none⟩ = some (.string a.old)) 7) (by kernel_rfl) ?_
        have hS := SS.out w2.drew ⟨rfl, rfl, rfl, Nat.le_refl _, fun _ _ => rfl⟩
        refine anyR_take (i := 0) (.slice A s.length c) rfl (by kernel_rfl) (by kernel_rfl) (by kernel_rfl) (by kernel_rfl) (fun _ _ _ h => h) (by assumption) ⟨by rfl, ?_⟩ ?_
        · intro W hW
          go_simp
        try simp only [Act.put, List.setIfInBounds_toArray, List.set_cons_zero, List.set_cons_succ, List.getElem_toArray, List.getElem_cons_zero, List.getElem_cons_succ]
        refine anyR_take (i := 1) (.pointer (some ⟨g8, 1, none⟩)) rfl (by kernel_rfl) (by kernel_rfl) (by kernel_rfl) (by kernel_rfl) (fun _ _ _ h => h) (by assumption) ⟨by rfl, ?_⟩ ?_
        · intro W hW
          go_simp
        try simp only [Act.put, List.setIfInBounds_toArray, List.set_cons_zero, List.set_cons_succ, List.getElem_toArray, List.getElem_cons_zero, List.getElem_cons_succ]
        refine anyR_take (i := 2) (.int .i64 a.id) rfl (by kernel_rfl) (by kernel_rfl) (by kernel_rfl) (by kernel_rfl) (fun _ _ _ h => h) (by assumption) ⟨by rfl, ?_⟩ ?_
        · intro W hW
          go_simp
        try simp only [Act.put, List.setIfInBounds_toArray, List.set_cons_zero, List.set_cons_succ, List.getElem_toArray, List.getElem_cons_zero, List.getElem_cons_succ]
        refine anyR_take (i := 4) (.pointer (some ⟨g8, 2, none⟩)) rfl (by kernel_rfl) (by kernel_rfl) (by kernel_rfl) (by kernel_rfl) (fun _ _ _ h => h) (by assumption) ⟨by rfl, ?_⟩ ?_
        · intro W hW
          go_simp
        try simp only [Act.put, List.setIfInBounds_toArray, List.set_cons_zero, List.set_cons_succ, List.getElem_toArray, List.getElem_cons_zero, List.getElem_cons_succ]
        refine anyR_take (i := 5) (.string a.old) rfl (by kernel_rfl) (by kernel_rfl) (by kernel_rfl) (by kernel_rfl) (fun _ _ _ h => h) (by assumption) ⟨by rfl, ?_⟩ ?_
        · intro W hW
          go_simp
        try simp only [Act.put, List.setIfInBounds_toArray, List.set_cons_zero, List.set_cons_succ, List.getElem_toArray, List.getElem_cons_zero, List.getElem_cons_succ]
        refine anyR_one (i := 3) (by kernel_rfl) rfl ?_
        intro K hK
        go_simp
        refine (textOf_ok A s.length c s a.id _ (HA.out.below (bel_trans B2.out hS.1))).mono ?_
        rintro e w9 ⟨rfl, b9⟩
        have hT := SS.out w9 (bel_trans hS.1 b9)
        refine hK.out _ _ (fun _ => hT) ?_
        clear hS b9
        have hS := hT
        clear hT
        clear hK K
        try simp only [Act.put, List.setIfInBounds_toArray, List.set_cons_zero, List.set_cons_succ, List.getElem_toArray, List.getElem_cons_zero, List.getElem_cons_succ]
        refine anyR_take (i := 6) (.bool true) rfl (by kernel_rfl) (by kernel_rfl) (by kernel_rfl) (by kernel_rfl) (fun _ _ _ h => h) (by assumption) ⟨by rfl, ?_⟩ ?_
        · intro W hW
          go_simp
        try simp only [Act.put, List.setIfInBounds_toArray, List.set_cons_zero, List.set_cons_succ, List.getElem_toArray, List.getElem_cons_zero, List.getElem_cons_succ]
        refine anyR_done (by kernel_rfl) ?_ _
        refine NoPanic.normal ?_
        have BB := Lib.hid (bel_trans B2.out hS.1)
        have HX := Lib.hid ha.out
        clear hS SS CC O2 B2 eqv
        go_wp2_with fail
        go_ret2
        exact ⟨.inr ⟨fun hh => HFIT.out (hh a (List.mem_of_getElem? HX.out)), rfl⟩, BB.out⟩
    · obtain rfl : p.length = k := by omega
      have d0 := decide_eq_false (show ¬ (p.length : Int) < (p.length : Int) by omega)
      have HO2 := HO.out
      have HF2 := HF.out
      rw [List.take_of_length_le (Nat.le_refl _)] at HO2 HF2
      have HO3 := Lib.hid HO2
      have HF3 := Lib.hid HF2
      clear HO2 HF2
      go_wp2_with fail
      go_ret2
      exact ⟨.inl ⟨HF3.out, g, L, oc, rfl, HO3.out⟩, HB.out⟩
end Go.Proofs.Ytcoladhppbknnaa
