/- The model's SealBallot. -/
import Derived.Test.YtnjnngnagdhaiaaSealBO
import Derived.Test.YtnjnngnagdhaiaaPhase
namespace Go.Proofs.Ytnjnngnagdhaiaa
set_option linter.unusedVariables false
set_option linter.unusedSimpArgs false
set_option maxRecDepth 100000
open Go.RowKit
theorem joinK3 {ks : List Int} (h : ks.length = 3) : joinK ks [1, 1, 1] = slK ks 3 := by
  match ks, h with
  | [a, b, c], _ =>
    show joinKS (joinKS (joinKS 0 (a, 1)) (b, 1)) (c, 1) = _
    simp [slK, joinKS]
theorem pb_lit (w : World) : PB w.heap.size ((w.alloc (.cells #[] 2)).alloc (.cells #[] 31)) (some ⟨w.heap.size, 0, none⟩) 0 0 [] (some ⟨w.heap.size + 1, 0, none⟩) 0 0 [] [] := by
  refine ⟨(ownI_lit w).below (bel_alloc _ _), ?_, rfl, fun j zs e => by simp [fl3] at e, by simp⟩
  have := World.ownsRow_lit (base := w.heap.size) (e := 31) (size := 3) (w.alloc (.cells #[] 2)) #[] 0 (by simp) (by unfold maxLen; omega) (by simp)
  simpa using this
theorem row_far {w : World} {lo e size n : Nat} {v : Value} {xs : List Value} (h : w.ownsRow lo e size v n xs) {g' : Nat} (hg : g' < lo) (j : Nat) (u : Value) : (w.setCell ⟨g', j, none⟩ u).ownsRow lo e size v n xs := by
  refine h.kept (row := some g') ⟨rfl, rfl, rfl, by simp [World.setCell], fun k _ hk => heap_setCell_other w ⟨g', j, none⟩ k u (fun e => hk (by simp [e]))⟩ ?_
  cases hv : v.ownBlock with
  | none => exact .inl rfl
  | some b =>
    refine .inr fun e => ?_
    have := (h.lt b hv).1
    injection e with e
    omega
theorem row_mono {w : World} {lo b2 e size n : Nat} {v : Value} {xs : List Value} (h : w.ownsRow lo e size v n xs) (hb : b2 ≤ lo) : w.ownsRow b2 e size v n xs := by
  refine ⟨h.1, ?_⟩
  rcases h.2 with h1 | ⟨g, cap, cur, hv, hg, r⟩
  · exact .inl h1
  · exact .inr ⟨g, cap, cur, hv, Nat.le_trans hb hg, r⟩
theorem PB.far {lo : Nat} {w : World} {A : Option Addr} {n c : Nat} {ss : List Int} {B : Option Addr} {m d : Nat} {hv : List Value} {ps : List Bp} (p : PB lo w A n c ss B m d hv ps) {g' : Nat} (hg : g' < lo) (j : Nat) (u : Value) : PB lo (w.setCell ⟨g', j, none⟩ u) A n c ss B m d hv ps :=
  ⟨p.own.far hg j u, row_far p.hd hg j u, p.len, fun i zs e => by obtain ⟨A', c', e1, o⟩ := p.row i zs e; exact ⟨A', c', e1, o.far hg j u⟩, p.apart⟩
theorem PB.mono {lo b2 : Nat} {w : World} {A : Option Addr} {n c : Nat} {ss : List Int} {B : Option Addr} {m d : Nat} {hv : List Value} {ps : List Bp} (p : PB lo w A n c ss B m d hv ps) (hb : b2 ≤ lo) : PB b2 w A n c ss B m d hv ps :=
  ⟨p.own.mono hb, row_mono p.hd hb, p.len, fun i zs e => by obtain ⟨A', c', e1, o⟩ := p.row i zs e; exact ⟨A', c', e1, o.mono hb⟩, p.apart⟩
theorem PB.drew {lo : Nat} {w : World} {A : Option Addr} {n c : Nat} {ss : List Int} {B : Option Addr} {m d : Nat} {hv : List Value} {ps : List Bp} (p : PB lo w A n c ss B m d hv ps) : PB lo w.drew A n c ss B m d hv ps :=
  ⟨p.own.drew, p.hd, p.len, fun i zs e => by obtain ⟨A', c', e1, o⟩ := p.row i zs e; exact ⟨A', c', e1, o.drew⟩, p.apart⟩
theorem BO.drew {w : World} {g : Nat} {u0 u1 u2 : Value} (h : BO w g u0 u1 u2) : BO w.drew g u0 u1 u2 := h
set_option maxHeartbeats 2000000 in
theorem l09Make_any (vote : Int) (v0 : -9223372036854775808 ≤ vote) (v1 : vote ≤ 9223372036854775807) (A : Option Addr) (c : Nat) (ks : List Int) (C : Option Addr) (f : Nat) (nss : List (List Int)) (w : World) (hk : Ints .i64 w A 3 c ks) (hn : Rws w C 3 f nss) (hb : slB vote ks nss = true) :
    Calls Try.prog 83 #[.int .i64 vote, .slice A 3 c, .slice C 3 f] w fun e w' => ∃ A' c' B d hv, e = .returned (.agg #[.slice A' 3 c', .slice B 3 d, .int .i64 (slK ks 3)]) ∧ PB w.heap.size w' A' 3 c' (slS vote ks 3) B 3 d hv (slP vote ks nss 3) ∧ Below w.heap.size w w' := by
  simp only [slB, Bool.and_eq_true, decide_eq_true_eq] at hb
  obtain ⟨⟨b1, b2⟩, b3, b4⟩ := hb
  obtain ⟨l3, hks⟩ := allB_true.1 b2
  have KS := Lib.hid hks
  have NS := Lib.hid (List.all_eq_true.1 b4)
  have ONE : Hid (∀ z ∈ [(1 : Int), 1, 1], weightB z = true) := by intro z hz; simp at hz; subst hz; decide
  have JK := Lib.hid (joinK3 (ks := ks) (by omega))
  have kb := slK_bd ks 3
  clear hks b4
  obtain ⟨w0, hw0⟩ : ∃ x, w.alloc (.cells [.slice none 0 0, .slice none 0 0, .int .i64 0].toArray 48) = x := ⟨_, rfl⟩
  obtain ⟨w2, hw2⟩ : ∃ x, (w0.alloc (.cells #[] 2)).alloc (.cells #[] 31) = x := ⟨_, rfl⟩
  obtain ⟨w3, hw3⟩ : ∃ x, w2.alloc (.cells [.int .i64 1, .int .i64 1, .int .i64 1].toArray 2) = x := ⟨_, rfl⟩
  have R0 : Cs w0 w.heap.size [.slice none 0 0, .slice none 0 0, .int .i64 0] := hw0 ▸ Cs.new w _ _
  have P2 : PB w0.heap.size w2 (some ⟨w0.heap.size, 0, none⟩) 0 0 [] (some ⟨w0.heap.size + 1, 0, none⟩) 0 0 [] [] := hw2 ▸ pb_lit w0
  have I3 : Ints .i64 w3 (some ⟨w2.heap.size, 0, none⟩) 3 3 [1, 1, 1] := hw3 ▸ (Cs.new w2 [.int .i64 1, .int .i64 1, .int .i64 1] 2).ints (n := 3) [1, 1, 1] rfl rfl (by decide) (by intro z hz; simp at hz; subst hz; decide)
  have x0 : Below w.heap.size w w0 := hw0 ▸ bel_alloc _ _
  have x2 : Below w0.heap.size w0 w2 := hw2 ▸ bel_trans (bel_alloc _ _) (bel_alloc _ _)
  have x3 : Below w2.heap.size w2 w3 := hw3 ▸ bel_alloc _ _
  have bb := bel_trans x0 (bel_trans x2 x3)
  have sz0 : w0.heap.size = w.heap.size + 1 := by rw [← hw0]; simp
  have sz2 : w2.heap.size = w.heap.size + 1 + 1 + 1 := by rw [← hw2]; simp [sz0]
  have P3 := Lib.hid (P2.below x3)
  have HW := Lib.hid (show ((((w.alloc (.cells #[.slice none 0 0, .slice none 0 0, .int .i64 0] 48)).alloc (.cells #[] 2)).alloc (.cells #[] 31)).alloc (.cells #[.int .i64 1, .int .i64 1, .int .i64 1] 2)) = w3 by rw [← hw3, ← hw2, ← hw0])
  have I3' := Lib.hid I3
  rw [sz2] at I3'
  have RR := Lib.hid R0
  clear hw0 hw2 hw3 R0 P2 I3
  go_enter Try.func83, Try.ntmps83
  go_wp2_with fail
  rw [HW.out]
  refine (l09Keys_any A 3 c ks _ 3 [1, 1, 1] _ (hk.below bb) I3'.out KS ONE).mono ?_
  rintro e w4 ⟨rfl, x4⟩
  rw [JK.out]
  have P5 := Lib.hid ((P3.out.below x4).below (bel_alloc w4 (.cells #[.slice (some ⟨w.heap.size + 1, 0, none⟩) 0 0, .slice (some ⟨w.heap.size + 1 + 1, 0, none⟩) 0 0, .int .i64 (slK ks 3)] 48)))
  rw [sz0] at P5
  have W0 := Lib.hid (bel_trans (bel_trans x2 x3) (bel_trans x4 (bel_alloc w4 (.cells #[.slice (some ⟨w.heap.size + 1, 0, none⟩) 0 0, .slice (some ⟨w.heap.size + 1 + 1, 0, none⟩) 0 0, .int .i64 (slK ks 3)] 48))))
  obtain ⟨key, hkey⟩ : ∃ k, slK ks 3 = k := ⟨_, rfl⟩
  rw [hkey] at P5 W0 kb ⊢
  have HK := Lib.hid hkey
  obtain ⟨g, hg⟩ : ∃ g, w4.heap.size = g := ⟨_, rfl⟩
  have B5 := Lib.hid (BO.new w4 (.slice (some ⟨w.heap.size + 1, 0, none⟩) 0 0) (.slice (some ⟨w.heap.size + 1 + 1, 0, none⟩) 0 0) (.int .i64 key))
  rw [hg] at B5
  clear hkey
  go_wp2_with fail
  go_loopw [8] (fun i wr => ∃ (j : Nat) (A' : Option Addr) (c' : Nat) (B : Option Addr) (d : Nat) (hv : List Value), j ≤ 3 ∧ i = .int .i64 j ∧ BO wr g (.slice A' j c') (.slice B j d) (.int .i64 key) ∧ PB (w.heap.size + 1) wr A' j c' (slS vote ks j) B j d hv (slP vote ks nss j) ∧ Below w0.heap.size w0 wr) (fun i _ => 3 - (intOf i).toNat)
  case atStart => exact ⟨0, _, _, _, _, _, by omega, rfl, B5.out, P5.out, W0.out⟩
  case round =>
    obtain ⟨j, A', c', B, d, hv, hj, rfl, hBO, hPB, hbel⟩ := hrel
    have HB := Lib.hid hBO
    have HP := Lib.hid hPB
    have HL := Lib.hid hbel
    clear hBO hPB hbel
    by_cases hlt : j < 3
    · obtain ⟨b, off, x, rfl, hb, hcell, zz1, zz2, hx⟩ := hk.at hlt
      obtain ⟨bk, ok, Ak, mk, e1, ns, rfl, hbk, ck, ik, hns⟩ := hn.at hlt
      have ex := expB_true (KS.out x (mem_of_at hx.out))
      have hd3 : decide ((j : Int) < 3) = true := by simp; omega
      have ji3 : (j : Int) < 3 := by omega
      have ji0 : (0 : Int) ≤ (j : Int) := by omega
      have hgw : w0.heap.size ≤ g := by rw [← hg]; have := x4.size; have := x3.size; have := x2.size; omega
      obtain rfl : mk = 3 := by have h1 := ik.1; have h2 := (allB_true.1 (NS.out ns (mem_of_at hns.out))).1; omega
      have SS := Lib.hid (fun (W : World) (hW : Below w0.heap.size w0 W) => (show W.cell? ⟨b, off + j, none⟩ = some (.int .i64 x) ∧ W.cell? ⟨bk, ok + j, none⟩ = some (.slice Ak 3 e1) from ⟨((bel_trans x0 hW).cell (p := ⟨b, off + j, none⟩) hb).trans hcell, ((bel_trans x0 hW).cell (p := ⟨bk, ok + j, none⟩) hbk).trans ck⟩))
      clear hcell ck
      by_cases hbit : (j : Int) = vote
      · have EB := Lib.hid (show bitOf vote j = 1 by simp [bitOf, hbit])
        subst hbit
        have CS := Lib.hid (show slS (j : Int) ks (j + 1) = slS (j : Int) ks j ++ [sealO 1 x] by rw [slS_succ (j : Int) ks hx.out, EB.out])
        have CP := Lib.hid (show slP (j : Int) ks nss (j + 1) = slP (j : Int) ks nss j ++ [⟨prM 1 x ns, prC 1 x ns, prA 1 x ns⟩] by rw [slP_succ (j : Int) ks nss hx.out hns.out, EB.out])
        have PRV : Hid (∀ W, Below w0.heap.size w0 W → Calls Try.prog 68 #[.int .i64 1, .int .i64 x, .slice Ak 3 e1] W (GivesB1 (prM 1 x ns) (prC 1 x ns) (prA 1 x ns) W)) := fun W hW => l09Prove_one x Ak 3 e1 ns W (ik.below (bel_trans x0 hW)) (KS.out x (mem_of_at hx.out)) (NS.out ns (mem_of_at hns.out))
        obtain ⟨s, hs⟩ : ∃ r, sealO 1 x = r := ⟨_, rfl⟩
        have bs : 0 ≤ s ∧ s < 1000000007 := by rw [← hs]; exact ⟨sealO_lo _ _, sealO_hi _ _⟩
        have HR := Lib.hid hs
        rw [hs] at CS
        obtain ⟨ms, hms⟩ : ∃ r, prM 1 x ns = r := ⟨_, rfl⟩
        obtain ⟨cs, hcs⟩ : ∃ r, prC 1 x ns = r := ⟨_, rfl⟩
        obtain ⟨as_, has⟩ : ∃ r, prA 1 x ns = r := ⟨_, rfl⟩
        rw [hms, hcs, has] at CP PRV
        have z0 : -9223372036854775808 ≤ s := by omega
        have z1 : s ≤ 9223372036854775807 := by omega
        have qk : j ≤ 1099511627776 := by omega
        have xr : Below w0.heap.size w0 wr := HL.out
        have szr := xr.size
        have szg := HB.out.lt
        have xra : Below w0.heap.size w0 (wr.alloc (.cells #[.int .i64 s] 2)) := xr.alloc xr.size _
        have y0 := HB.out.cells.1
        have BOA := Lib.hid (HB.out.below (bel_alloc wr (.cells #[.int .i64 s] 2)))
        have y0a := BOA.out.cells.1
        have PA := Lib.hid (HP.out.below (bel_alloc wr (.cells #[.int .i64 s] 2)))
        have HOa := Lib.hid PA.out.own
        have HCN := Lib.hid (show (wr.alloc (.cells #[.int .i64 s] 2)).cell? ⟨wr.heap.size, 0, none⟩ = some (.int .i64 s) by simp)
        have hsa : w.heap.size + 1 ≤ (wr.alloc (.cells #[.int .i64 s] 2)).heap.size := by simp; omega
        clear hs hms hcs has ik
        go_wp2_with fail
        refine wp_region_noPanic ?_
        refine wp_region_R (inFirst (fun w' => w'.cell? ⟨b, off + j, none⟩ = some (.int .i64 x) ∧ w'.cell? ⟨g, 0, none⟩ = some (.slice A' j c')) 10) (by kernel_rfl) ?_
        have hS0 : (wr.drew.cell? ⟨b, off + j, none⟩ = some (.int .i64 x) ∧ wr.drew.cell? ⟨g, 0, none⟩ = some (.slice A' j c')) := ⟨(SS.out _ xr).1, y0⟩
        refine anyR_take (i := 0) (.pointer (some ⟨g, 0, none⟩)) rfl (by kernel_rfl) (by kernel_rfl) (by kernel_rfl) (by kernel_rfl) (fun _ _ _ h => h) (by assumption) ⟨by rfl, ?_⟩ ?_
        · intro W hW
          go_simp
        try simp only [Act.put, List.setIfInBounds_toArray, List.set_cons_zero, List.set_cons_succ]
        refine anyR_take (i := 2) (.int .i64 1) rfl (by kernel_rfl) (by kernel_rfl) (by kernel_rfl) (by kernel_rfl) (fun _ _ _ h => h) (by assumption) ⟨by rfl, ?_⟩ ?_
        · intro W hW
          go_simp
        try simp only [Act.put, List.setIfInBounds_toArray, List.set_cons_zero, List.set_cons_succ]
        refine anyR_take (i := 3) (.slice (some ⟨b, off, none⟩) 3 c) rfl (by kernel_rfl) (by kernel_rfl) (by kernel_rfl) (by kernel_rfl) (fun _ _ _ h => h) (by assumption) ⟨by rfl, ?_⟩ ?_
        · intro W hW
          go_simp
        try simp only [Act.put, List.setIfInBounds_toArray, List.set_cons_zero, List.set_cons_succ]
        refine anyR_take (i := 4) (.int .i64 j) rfl (by kernel_rfl) (by kernel_rfl) (by kernel_rfl) (by kernel_rfl) (fun _ _ _ h => h) (by assumption) ⟨by rfl, ?_⟩ ?_
        · intro W hW
          go_simp
        try simp only [Act.put, List.setIfInBounds_toArray, List.set_cons_zero, List.set_cons_succ]
        refine anyR_take (i := 5) (.pointer (some ⟨b, off + j, none⟩)) rfl (by kernel_rfl) (by kernel_rfl) (by kernel_rfl) (by kernel_rfl) (fun _ _ _ h => h) (by assumption) ⟨by rfl, ?_⟩ ?_
        · intro W hW
          go_simp
        try simp only [Act.put, List.setIfInBounds_toArray, List.set_cons_zero, List.set_cons_succ]
        refine anyR_take (i := 1) (.slice A' j c') rfl (by kernel_rfl) (by kernel_rfl) (by kernel_rfl) (by kernel_rfl) (fun _ _ _ h => h) (by assumption) ⟨by rfl, ?_⟩ ?_
        · intro W hW
          go_simp
        try simp only [Act.put, List.setIfInBounds_toArray, List.set_cons_zero, List.set_cons_succ]
        refine anyR_take (i := 6) (.int .i64 x) rfl (by kernel_rfl) (by kernel_rfl) (by kernel_rfl) (by kernel_rfl) (fun _ _ _ h => h) (by assumption) ⟨by rfl, ?_⟩ ?_
        · intro W hW
          go_simp
        try simp only [Act.put, List.setIfInBounds_toArray, List.set_cons_zero, List.set_cons_succ]
        refine anyR_one (i := 7) (by kernel_rfl) rfl ?_
        intro K hK
        go_simp
        go_at_call 88
        refine (l09Of_any 1 x _ (by omega) (by omega) (by omega) (by omega)).mono ?_
        rintro e w' ⟨rfl, rfl⟩
        rw [HR.out]
        refine hK.out _ _ (fun _ => hS0) ?_
        clear hK K
        try simp only [Act.put, List.setIfInBounds_toArray, List.set_cons_zero, List.set_cons_succ]
        refine anyR_one (i := 8) (by kernel_rfl) rfl ?_
        intro K hK
        go_simp
        refine hK.out _ _ (fun _ => ⟨(SS.out _ xra).1, y0a⟩) ?_
        clear hK K
        try simp only [Act.put, List.setIfInBounds_toArray, List.set_cons_zero, List.set_cons_succ]
        refine anyR_one (i := 9) (by kernel_rfl) rfl ?_
        intro K hK
        refine step_app_int _ (by rfl) _ _ (by rfl) (w.heap.size + 1) A' j c' _ (by rfl) HOa.out s z0 z1 wr.heap.size (by rfl) HCN.out qk hsa ?_
        intro A7 c7 w7 p1 p2 p3
        have BO7 := Lib.hid (BOA.out.drew.keepS PA.out.drew.own p2)
        have PB7 := PA.out.drew.seal p1 p2 p3
        have x7 : Below w0.heap.size w0 w7 := Below.grown (show Below w0.heap.size w0 ((wr.alloc (.cells #[.int .i64 s] 2)).drew) from ⟨xra.os, xra.tape, xra.output, xra.size, xra.block⟩) p2 xra.size (fun x hx => by have := (PA.out.own.block x hx).1; omega)
        have st := BO7.out.set0 (.slice A7 (j + 1) c7)
        have B8 := Lib.hid st.1
        have P8 := Lib.hid (PB7.keep BO7.out st.2)
        have x8 := x7.setCell (p := ⟨g, 0, none⟩) hgw (.slice A7 (j + 1) c7)
        have c70 := BO7.out.cells.1
        have f70 := BO7.out.free 0
        clear p1 p2 p3 st PB7
        refine hK.out _ _ (fun _ => ⟨(SS.out _ x7).1, c70⟩) ?_
        clear hK K
        try simp only [Act.put, List.setIfInBounds_toArray, List.set_cons_zero, List.set_cons_succ]
        refine anyR_one (i := 10) (by kernel_rfl) rfl ?_
        intro K hK
        go_simp
        refine hK.out _ _ (fun h => absurd h (by decide)) ?_
        clear hK K
        try simp only [Act.put, List.setIfInBounds_toArray, List.set_cons_zero, List.set_cons_succ]
        refine anyR_one (i := 11) (by kernel_rfl) rfl ?_
        intro K hK
        go_simp
        refine hK.out _ _ (fun h => absurd h (by decide)) ?_
        clear hK K
        try simp only [Act.put, List.setIfInBounds_toArray, List.set_cons_zero, List.set_cons_succ]
        refine anyR_done (by kernel_rfl) ?_ _
        refine NoPanic.normal ?_
        obtain ⟨w8, hw8⟩ : ∃ z, w7.setCell ⟨g, 0, none⟩ (.slice A7 (j + 1) c7) = z := ⟨_, rfl⟩
        rw [hw8] at B8 P8 x8 ⊢
        clear hw8 y0 y0a c70 f70 hS0
        have y1 := B8.out.cells.2.1
        have sz8 := x8.size
        have szg8 := B8.out.lt
        go_wp2_with fail
        refine wp_region_noPanic ?_
        refine wp_region_R (inFirst (fun w' => w'.cell? ⟨b, off + j, none⟩ = some (.int .i64 x) ∧ w'.cell? ⟨bk, ok + j, none⟩ = some (.slice Ak 3 e1) ∧ w'.cell? ⟨g, 1, none⟩ = some (.slice B j d)) 14) (by kernel_rfl) ?_
        have hS0 : (w8.drew.cell? ⟨b, off + j, none⟩ = some (.int .i64 x) ∧ w8.drew.cell? ⟨bk, ok + j, none⟩ = some (.slice Ak 3 e1) ∧ w8.drew.cell? ⟨g, 1, none⟩ = some (.slice B j d)) := ⟨(SS.out _ x8).1, (SS.out _ x8).2, y1⟩
        refine anyR_take (i := 0) (.pointer (some ⟨g, 1, none⟩)) rfl (by kernel_rfl) (by kernel_rfl) (by kernel_rfl) (by kernel_rfl) (fun _ _ _ h => h) (by assumption) ⟨by rfl, ?_⟩ ?_
        · intro W hW
          go_simp
        try simp only [Act.put, List.setIfInBounds_toArray, List.set_cons_zero, List.set_cons_succ]
        refine anyR_take (i := 2) (.int .i64 1) rfl (by kernel_rfl) (by kernel_rfl) (by kernel_rfl) (by kernel_rfl) (fun _ _ _ h => h) (by assumption) ⟨by rfl, ?_⟩ ?_
        · intro W hW
          go_simp
        try simp only [Act.put, List.setIfInBounds_toArray, List.set_cons_zero, List.set_cons_succ]
        refine anyR_take (i := 3) (.slice (some ⟨b, off, none⟩) 3 c) rfl (by kernel_rfl) (by kernel_rfl) (by kernel_rfl) (by kernel_rfl) (fun _ _ _ h => h) (by assumption) ⟨by rfl, ?_⟩ ?_
        · intro W hW
          go_simp
        try simp only [Act.put, List.setIfInBounds_toArray, List.set_cons_zero, List.set_cons_succ]
        refine anyR_take (i := 4) (.int .i64 j) rfl (by kernel_rfl) (by kernel_rfl) (by kernel_rfl) (by kernel_rfl) (fun _ _ _ h => h) (by assumption) ⟨by rfl, ?_⟩ ?_
        · intro W hW
          go_simp
        try simp only [Act.put, List.setIfInBounds_toArray, List.set_cons_zero, List.set_cons_succ]
        refine anyR_take (i := 5) (.pointer (some ⟨b, off + j, none⟩)) rfl (by kernel_rfl) (by kernel_rfl) (by kernel_rfl) (by kernel_rfl) (fun _ _ _ h => h) (by assumption) ⟨by rfl, ?_⟩ ?_
        · intro W hW
          go_simp
        try simp only [Act.put, List.setIfInBounds_toArray, List.set_cons_zero, List.set_cons_succ]
        refine anyR_take (i := 7) (.slice (some ⟨bk, ok, none⟩) 3 f) rfl (by kernel_rfl) (by kernel_rfl) (by kernel_rfl) (by kernel_rfl) (fun _ _ _ h => h) (by assumption) ⟨by rfl, ?_⟩ ?_
        · intro W hW
          go_simp
        try simp only [Act.put, List.setIfInBounds_toArray, List.set_cons_zero, List.set_cons_succ]
        refine anyR_take (i := 8) (.int .i64 j) rfl (by kernel_rfl) (by kernel_rfl) (by kernel_rfl) (by kernel_rfl) (fun _ _ _ h => h) (by assumption) ⟨by rfl, ?_⟩ ?_
        · intro W hW
          go_simp
        try simp only [Act.put, List.setIfInBounds_toArray, List.set_cons_zero, List.set_cons_succ]
        refine anyR_take (i := 9) (.pointer (some ⟨bk, ok + j, none⟩)) rfl (by kernel_rfl) (by kernel_rfl) (by kernel_rfl) (by kernel_rfl) (fun _ _ _ h => h) (by assumption) ⟨by rfl, ?_⟩ ?_
        · intro W hW
          go_simp
        try simp only [Act.put, List.setIfInBounds_toArray, List.set_cons_zero, List.set_cons_succ]
        refine anyR_take (i := 1) (.slice B j d) rfl (by kernel_rfl) (by kernel_rfl) (by kernel_rfl) (by kernel_rfl) (fun _ _ _ h => h) (by assumption) ⟨by rfl, ?_⟩ ?_
        · intro W hW
          go_simp
        try simp only [Act.put, List.setIfInBounds_toArray, List.set_cons_zero, List.set_cons_succ]
        refine anyR_take (i := 6) (.int .i64 x) rfl (by kernel_rfl) (by kernel_rfl) (by kernel_rfl) (by kernel_rfl) (fun _ _ _ h => h) (by assumption) ⟨by rfl, ?_⟩ ?_
        · intro W hW
          go_simp
        try simp only [Act.put, List.setIfInBounds_toArray, List.set_cons_zero, List.set_cons_succ]
        refine anyR_take (i := 10) (.slice Ak 3 e1) rfl (by kernel_rfl) (by kernel_rfl) (by kernel_rfl) (by kernel_rfl) (fun _ _ _ h => h) (by assumption) ⟨by rfl, ?_⟩ ?_
        · intro W hW
          go_simp
        try simp only [Act.put, List.setIfInBounds_toArray, List.set_cons_zero, List.set_cons_succ]
        refine anyR_one (i := 11) (by kernel_rfl) rfl ?_
        intro K hK
        go_simp
        go_at_call 68
        refine (PRV.out _ (show Below w0.heap.size w0 w8.drew from ⟨x8.os, x8.tape, x8.output, x8.size, x8.block⟩)).mono ?_
        rintro e w9 ⟨A1, c1, B1, d1, C1, f1, rfl, o1, o2, o3, ap, b9'⟩
        have b9 : Below w8.heap.size w8 w9 := ⟨b9'.os, b9'.tape, b9'.output, b9'.size, b9'.block⟩
        have x9 := bel_trans x8 b9
        have ba := bel_alloc w9 (.cells #[.slice A1 ms.length c1, .slice B1 cs.length d1, .slice C1 as_.length f1] 31)
        have x9a := bel_trans x9 ba
        have P9 := Lib.hid ((P8.out.below b9).below ba)
        have HD9 := Lib.hid P9.out.hd
        have B9 := Lib.hid (B8.out.below b9)
        have B9a := Lib.hid (B9.out.below ba)
        have y19 := B9.out.cells.2.1
        have y19a := B9a.out.cells.2.1
        have O1 := Lib.hid (o1.below ba)
        have O2 := Lib.hid (o2.below ba)
        have O3 := Lib.hid (o3.below ba)
        have AP := Lib.hid ap
        have N0 := Cs.new w9 [.slice A1 ms.length c1, .slice B1 cs.length d1, .slice C1 as_.length f1] 31
        have M0 := Lib.hid (N0.cell 0 rfl)
        have M1 := Lib.hid (N0.cell 1 rfl)
        have M2 := Lib.hid (N0.cell 2 rfl)
        have szp : w.heap.size + 1 ≤ (w9.alloc (.cells #[.slice A1 ms.length c1, .slice B1 cs.length d1, .slice C1 as_.length f1] 31)).heap.size := by have := B9a.out.lt; omega
        clear N0 o1 o2 o3 ap b9' ba
        refine hK.out _ _ (fun _ => ⟨(SS.out _ x9).1, (SS.out _ x9).2, y19⟩) ?_
        clear hK K
        try simp only [Act.put, List.setIfInBounds_toArray, List.set_cons_zero, List.set_cons_succ]
        refine anyR_one (i := 12) (by kernel_rfl) rfl ?_
        intro K hK
        go_simp
        refine hK.out _ _ (fun _ => ⟨(SS.out _ x9a).1, (SS.out _ x9a).2, y19a⟩) ?_
        clear hK K
        try simp only [Act.put, List.setIfInBounds_toArray, List.set_cons_zero, List.set_cons_succ]
        refine anyR_one (i := 13) (by kernel_rfl) rfl ?_
        intro K hK
        refine step_app_bp _ (by rfl) _ _ (by rfl) (w.heap.size + 1) B j d hv (by rfl) HD9.out (.slice A1 ms.length c1) (.slice B1 cs.length d1) (.slice C1 as_.length f1) rfl rfl rfl w9.heap.size (by rfl) M0.out M1.out M2.out (by omega) szp ?_
        intro B7 d7 w10 q1 q2
        have B10 := Lib.hid (B9a.out.keepP P9.out.hd q2)
        have PB10 := P9.out.proof (L := w8.heap.size) (p := ⟨ms, cs, as_⟩) (by omega) P8.out.tops.1 P8.out.tops.2 O1.out O2.out O3.out AP.out q1 q2
        have x10 : Below w0.heap.size w0 w10 := Below.grown x9a q2 x9a.size (fun k hk => by have := (P9.out.hd.lt k hk).1; omega)
        have st := B10.out.set1 (.slice B7 (j + 1) d7)
        have BF := Lib.hid st.1
        have PF := Lib.hid (PB10.keep B10.out st.2)
        have x11 := x10.setCell (p := ⟨g, 1, none⟩) hgw (.slice B7 (j + 1) d7)
        have c71 := B10.out.cells.2.1
        have f71 := B10.out.free 1
        clear q1 q2 st PB10
        refine hK.out _ _ (fun _ => ⟨(SS.out _ x10).1, (SS.out _ x10).2, c71⟩) ?_
        clear hK K
        try simp only [Act.put, List.setIfInBounds_toArray, List.set_cons_zero, List.set_cons_succ]
        refine anyR_one (i := 14) (by kernel_rfl) rfl ?_
        intro K hK
        go_simp
        refine hK.out _ _ (fun h => absurd h (by decide)) ?_
        clear hK K
        try simp only [Act.put, List.setIfInBounds_toArray, List.set_cons_zero, List.set_cons_succ]
        refine anyR_one (i := 15) (by kernel_rfl) rfl ?_
        intro K hK
        go_simp
        refine hK.out _ _ (fun h => absurd h (by decide)) ?_
        clear hK K
        try simp only [Act.put, List.setIfInBounds_toArray, List.set_cons_zero, List.set_cons_succ]
        refine anyR_done (by kernel_rfl) ?_ _
        refine NoPanic.normal ?_
        clear hS0
        go_wp2_with fail
        go_roundw
        case rel => exact ⟨j + 1, A7, c7, B7, d7, _, by omega, by go_num, BF.out, by rw [CS.out, CP.out]; exact PF.out, x11⟩
        case measure => simp [intOf]; omega
      · have EB := Lib.hid (show bitOf vote j = 0 by simp [bitOf, hbit])
        have hbn : ((j : Int) == vote) = false := by simpa using hbit
        have CS := Lib.hid (show slS vote ks (j + 1) = slS vote ks j ++ [sealO 0 x] by rw [slS_succ vote ks hx.out, EB.out])
        have CP := Lib.hid (show slP vote ks nss (j + 1) = slP vote ks nss j ++ [⟨prM 0 x ns, prC 0 x ns, prA 0 x ns⟩] by rw [slP_succ vote ks nss hx.out hns.out, EB.out])
        have PRV : Hid (∀ W, Below w0.heap.size w0 W → Calls Try.prog 68 #[.int .i64 0, .int .i64 x, .slice Ak 3 e1] W (GivesB1 (prM 0 x ns) (prC 0 x ns) (prA 0 x ns) W)) := fun W hW => l09Prove_zero x Ak 3 e1 ns W (ik.below (bel_trans x0 hW)) (KS.out x (mem_of_at hx.out)) (NS.out ns (mem_of_at hns.out))
        obtain ⟨s, hs⟩ : ∃ r, sealO 0 x = r := ⟨_, rfl⟩
        have bs : 0 ≤ s ∧ s < 1000000007 := by rw [← hs]; exact ⟨sealO_lo _ _, sealO_hi _ _⟩
        have HR := Lib.hid hs
        rw [hs] at CS
        obtain ⟨ms, hms⟩ : ∃ r, prM 0 x ns = r := ⟨_, rfl⟩
        obtain ⟨cs, hcs⟩ : ∃ r, prC 0 x ns = r := ⟨_, rfl⟩
        obtain ⟨as_, has⟩ : ∃ r, prA 0 x ns = r := ⟨_, rfl⟩
        rw [hms, hcs, has] at CP PRV
        have z0 : -9223372036854775808 ≤ s := by omega
        have z1 : s ≤ 9223372036854775807 := by omega
        have qk : j ≤ 1099511627776 := by omega
        have xr : Below w0.heap.size w0 wr := HL.out
        have szr := xr.size
        have szg := HB.out.lt
        have xra : Below w0.heap.size w0 (wr.alloc (.cells #[.int .i64 s] 2)) := xr.alloc xr.size _
        have y0 := HB.out.cells.1
        have BOA := Lib.hid (HB.out.below (bel_alloc wr (.cells #[.int .i64 s] 2)))
        have y0a := BOA.out.cells.1
        have PA := Lib.hid (HP.out.below (bel_alloc wr (.cells #[.int .i64 s] 2)))
        have HOa := Lib.hid PA.out.own
        have HCN := Lib.hid (show (wr.alloc (.cells #[.int .i64 s] 2)).cell? ⟨wr.heap.size, 0, none⟩ = some (.int .i64 s) by simp)
        have hsa : w.heap.size + 1 ≤ (wr.alloc (.cells #[.int .i64 s] 2)).heap.size := by simp; omega
        clear hs hms hcs has ik
        go_wp2_with fail
        refine wp_region_noPanic ?_
        refine wp_region_R (inFirst (fun w' => w'.cell? ⟨b, off + j, none⟩ = some (.int .i64 x) ∧ w'.cell? ⟨g, 0, none⟩ = some (.slice A' j c')) 10) (by kernel_rfl) ?_
        have hS0 : (wr.drew.cell? ⟨b, off + j, none⟩ = some (.int .i64 x) ∧ wr.drew.cell? ⟨g, 0, none⟩ = some (.slice A' j c')) := ⟨(SS.out _ xr).1, y0⟩
        refine anyR_take (i := 0) (.pointer (some ⟨g, 0, none⟩)) rfl (by kernel_rfl) (by kernel_rfl) (by kernel_rfl) (by kernel_rfl) (fun _ _ _ h => h) (by assumption) ⟨by rfl, ?_⟩ ?_
        · intro W hW
          go_simp
        try simp only [Act.put, List.setIfInBounds_toArray, List.set_cons_zero, List.set_cons_succ]
        refine anyR_take (i := 2) (.int .i64 0) rfl (by kernel_rfl) (by kernel_rfl) (by kernel_rfl) (by kernel_rfl) (fun _ _ _ h => h) (by assumption) ⟨by rfl, ?_⟩ ?_
        · intro W hW
          go_simp
        try simp only [Act.put, List.setIfInBounds_toArray, List.set_cons_zero, List.set_cons_succ]
        refine anyR_take (i := 3) (.slice (some ⟨b, off, none⟩) 3 c) rfl (by kernel_rfl) (by kernel_rfl) (by kernel_rfl) (by kernel_rfl) (fun _ _ _ h => h) (by assumption) ⟨by rfl, ?_⟩ ?_
        · intro W hW
          go_simp
        try simp only [Act.put, List.setIfInBounds_toArray, List.set_cons_zero, List.set_cons_succ]
        refine anyR_take (i := 4) (.int .i64 j) rfl (by kernel_rfl) (by kernel_rfl) (by kernel_rfl) (by kernel_rfl) (fun _ _ _ h => h) (by assumption) ⟨by rfl, ?_⟩ ?_
        · intro W hW
          go_simp
        try simp only [Act.put, List.setIfInBounds_toArray, List.set_cons_zero, List.set_cons_succ]
        refine anyR_take (i := 5) (.pointer (some ⟨b, off + j, none⟩)) rfl (by kernel_rfl) (by kernel_rfl) (by kernel_rfl) (by kernel_rfl) (fun _ _ _ h => h) (by assumption) ⟨by rfl, ?_⟩ ?_
        · intro W hW
          go_simp
        try simp only [Act.put, List.setIfInBounds_toArray, List.set_cons_zero, List.set_cons_succ]
        refine anyR_take (i := 1) (.slice A' j c') rfl (by kernel_rfl) (by kernel_rfl) (by kernel_rfl) (by kernel_rfl) (fun _ _ _ h => h) (by assumption) ⟨by rfl, ?_⟩ ?_
        · intro W hW
          go_simp
        try simp only [Act.put, List.setIfInBounds_toArray, List.set_cons_zero, List.set_cons_succ]
        refine anyR_take (i := 6) (.int .i64 x) rfl (by kernel_rfl) (by kernel_rfl) (by kernel_rfl) (by kernel_rfl) (fun _ _ _ h => h) (by assumption) ⟨by rfl, ?_⟩ ?_
        · intro W hW
          go_simp
        try simp only [Act.put, List.setIfInBounds_toArray, List.set_cons_zero, List.set_cons_succ]
        refine anyR_one (i := 7) (by kernel_rfl) rfl ?_
        intro K hK
        go_simp
        go_at_call 88
        refine (l09Of_any 0 x _ (by omega) (by omega) (by omega) (by omega)).mono ?_
        rintro e w' ⟨rfl, rfl⟩
        rw [HR.out]
        refine hK.out _ _ (fun _ => hS0) ?_
        clear hK K
        try simp only [Act.put, List.setIfInBounds_toArray, List.set_cons_zero, List.set_cons_succ]
        refine anyR_one (i := 8) (by kernel_rfl) rfl ?_
        intro K hK
        go_simp
        refine hK.out _ _ (fun _ => ⟨(SS.out _ xra).1, y0a⟩) ?_
        clear hK K
        try simp only [Act.put, List.setIfInBounds_toArray, List.set_cons_zero, List.set_cons_succ]
        refine anyR_one (i := 9) (by kernel_rfl) rfl ?_
        intro K hK
        refine step_app_int _ (by rfl) _ _ (by rfl) (w.heap.size + 1) A' j c' _ (by rfl) HOa.out s z0 z1 wr.heap.size (by rfl) HCN.out qk hsa ?_
        intro A7 c7 w7 p1 p2 p3
        have BO7 := Lib.hid (BOA.out.drew.keepS PA.out.drew.own p2)
        have PB7 := PA.out.drew.seal p1 p2 p3
        have x7 : Below w0.heap.size w0 w7 := Below.grown (show Below w0.heap.size w0 ((wr.alloc (.cells #[.int .i64 s] 2)).drew) from ⟨xra.os, xra.tape, xra.output, xra.size, xra.block⟩) p2 xra.size (fun x hx => by have := (PA.out.own.block x hx).1; omega)
        have st := BO7.out.set0 (.slice A7 (j + 1) c7)
        have B8 := Lib.hid st.1
        have P8 := Lib.hid (PB7.keep BO7.out st.2)
        have x8 := x7.setCell (p := ⟨g, 0, none⟩) hgw (.slice A7 (j + 1) c7)
        have c70 := BO7.out.cells.1
        have f70 := BO7.out.free 0
        clear p1 p2 p3 st PB7
        refine hK.out _ _ (fun _ => ⟨(SS.out _ x7).1, c70⟩) ?_
        clear hK K
        try simp only [Act.put, List.setIfInBounds_toArray, List.set_cons_zero, List.set_cons_succ]
        refine anyR_one (i := 10) (by kernel_rfl) rfl ?_
        intro K hK
        go_simp
        refine hK.out _ _ (fun h => absurd h (by decide)) ?_
        clear hK K
        try simp only [Act.put, List.setIfInBounds_toArray, List.set_cons_zero, List.set_cons_succ]
        refine anyR_one (i := 11) (by kernel_rfl) rfl ?_
        intro K hK
        go_simp
        refine hK.out _ _ (fun h => absurd h (by decide)) ?_
        clear hK K
        try simp only [Act.put, List.setIfInBounds_toArray, List.set_cons_zero, List.set_cons_succ]
        refine anyR_done (by kernel_rfl) ?_ _
        refine NoPanic.normal ?_
        obtain ⟨w8, hw8⟩ : ∃ z, w7.setCell ⟨g, 0, none⟩ (.slice A7 (j + 1) c7) = z := ⟨_, rfl⟩
        rw [hw8] at B8 P8 x8 ⊢
        clear hw8 y0 y0a c70 f70 hS0
        have y1 := B8.out.cells.2.1
        have sz8 := x8.size
        have szg8 := B8.out.lt
        go_wp2_with fail
        refine wp_region_noPanic ?_
        refine wp_region_R (inFirst (fun w' => w'.cell? ⟨b, off + j, none⟩ = some (.int .i64 x) ∧ w'.cell? ⟨bk, ok + j, none⟩ = some (.slice Ak 3 e1) ∧ w'.cell? ⟨g, 1, none⟩ = some (.slice B j d)) 14) (by kernel_rfl) ?_
        have hS0 : (w8.drew.cell? ⟨b, off + j, none⟩ = some (.int .i64 x) ∧ w8.drew.cell? ⟨bk, ok + j, none⟩ = some (.slice Ak 3 e1) ∧ w8.drew.cell? ⟨g, 1, none⟩ = some (.slice B j d)) := ⟨(SS.out _ x8).1, (SS.out _ x8).2, y1⟩
        refine anyR_take (i := 0) (.pointer (some ⟨g, 1, none⟩)) rfl (by kernel_rfl) (by kernel_rfl) (by kernel_rfl) (by kernel_rfl) (fun _ _ _ h => h) (by assumption) ⟨by rfl, ?_⟩ ?_
        · intro W hW
          go_simp
        try simp only [Act.put, List.setIfInBounds_toArray, List.set_cons_zero, List.set_cons_succ]
        refine anyR_take (i := 2) (.int .i64 0) rfl (by kernel_rfl) (by kernel_rfl) (by kernel_rfl) (by kernel_rfl) (fun _ _ _ h => h) (by assumption) ⟨by rfl, ?_⟩ ?_
        · intro W hW
          go_simp
        try simp only [Act.put, List.setIfInBounds_toArray, List.set_cons_zero, List.set_cons_succ]
        refine anyR_take (i := 3) (.slice (some ⟨b, off, none⟩) 3 c) rfl (by kernel_rfl) (by kernel_rfl) (by kernel_rfl) (by kernel_rfl) (fun _ _ _ h => h) (by assumption) ⟨by rfl, ?_⟩ ?_
        · intro W hW
          go_simp
        try simp only [Act.put, List.setIfInBounds_toArray, List.set_cons_zero, List.set_cons_succ]
        refine anyR_take (i := 4) (.int .i64 j) rfl (by kernel_rfl) (by kernel_rfl) (by kernel_rfl) (by kernel_rfl) (fun _ _ _ h => h) (by assumption) ⟨by rfl, ?_⟩ ?_
        · intro W hW
          go_simp
        try simp only [Act.put, List.setIfInBounds_toArray, List.set_cons_zero, List.set_cons_succ]
        refine anyR_take (i := 5) (.pointer (some ⟨b, off + j, none⟩)) rfl (by kernel_rfl) (by kernel_rfl) (by kernel_rfl) (by kernel_rfl) (fun _ _ _ h => h) (by assumption) ⟨by rfl, ?_⟩ ?_
        · intro W hW
          go_simp
        try simp only [Act.put, List.setIfInBounds_toArray, List.set_cons_zero, List.set_cons_succ]
        refine anyR_take (i := 7) (.slice (some ⟨bk, ok, none⟩) 3 f) rfl (by kernel_rfl) (by kernel_rfl) (by kernel_rfl) (by kernel_rfl) (fun _ _ _ h => h) (by assumption) ⟨by rfl, ?_⟩ ?_
        · intro W hW
          go_simp
        try simp only [Act.put, List.setIfInBounds_toArray, List.set_cons_zero, List.set_cons_succ]
        refine anyR_take (i := 8) (.int .i64 j) rfl (by kernel_rfl) (by kernel_rfl) (by kernel_rfl) (by kernel_rfl) (fun _ _ _ h => h) (by assumption) ⟨by rfl, ?_⟩ ?_
        · intro W hW
          go_simp
        try simp only [Act.put, List.setIfInBounds_toArray, List.set_cons_zero, List.set_cons_succ]
        refine anyR_take (i := 9) (.pointer (some ⟨bk, ok + j, none⟩)) rfl (by kernel_rfl) (by kernel_rfl) (by kernel_rfl) (by kernel_rfl) (fun _ _ _ h => h) (by assumption) ⟨by rfl, ?_⟩ ?_
        · intro W hW
          go_simp
        try simp only [Act.put, List.setIfInBounds_toArray, List.set_cons_zero, List.set_cons_succ]
        refine anyR_take (i := 1) (.slice B j d) rfl (by kernel_rfl) (by kernel_rfl) (by kernel_rfl) (by kernel_rfl) (fun _ _ _ h => h) (by assumption) ⟨by rfl, ?_⟩ ?_
        · intro W hW
          go_simp
        try simp only [Act.put, List.setIfInBounds_toArray, List.set_cons_zero, List.set_cons_succ]
        refine anyR_take (i := 6) (.int .i64 x) rfl (by kernel_rfl) (by kernel_rfl) (by kernel_rfl) (by kernel_rfl) (fun _ _ _ h => h) (by assumption) ⟨by rfl, ?_⟩ ?_
        · intro W hW
          go_simp
        try simp only [Act.put, List.setIfInBounds_toArray, List.set_cons_zero, List.set_cons_succ]
        refine anyR_take (i := 10) (.slice Ak 3 e1) rfl (by kernel_rfl) (by kernel_rfl) (by kernel_rfl) (by kernel_rfl) (fun _ _ _ h => h) (by assumption) ⟨by rfl, ?_⟩ ?_
        · intro W hW
          go_simp
        try simp only [Act.put, List.setIfInBounds_toArray, List.set_cons_zero, List.set_cons_succ]
        refine anyR_one (i := 11) (by kernel_rfl) rfl ?_
        intro K hK
        go_simp
        go_at_call 68
        refine (PRV.out _ (show Below w0.heap.size w0 w8.drew from ⟨x8.os, x8.tape, x8.output, x8.size, x8.block⟩)).mono ?_
        rintro e w9 ⟨A1, c1, B1, d1, C1, f1, rfl, o1, o2, o3, ap, b9'⟩
        have b9 : Below w8.heap.size w8 w9 := ⟨b9'.os, b9'.tape, b9'.output, b9'.size, b9'.block⟩
        have x9 := bel_trans x8 b9
        have ba := bel_alloc w9 (.cells #[.slice A1 ms.length c1, .slice B1 cs.length d1, .slice C1 as_.length f1] 31)
        have x9a := bel_trans x9 ba
        have P9 := Lib.hid ((P8.out.below b9).below ba)
        have HD9 := Lib.hid P9.out.hd
        have B9 := Lib.hid (B8.out.below b9)
        have B9a := Lib.hid (B9.out.below ba)
        have y19 := B9.out.cells.2.1
        have y19a := B9a.out.cells.2.1
        have O1 := Lib.hid (o1.below ba)
        have O2 := Lib.hid (o2.below ba)
        have O3 := Lib.hid (o3.below ba)
        have AP := Lib.hid ap
        have N0 := Cs.new w9 [.slice A1 ms.length c1, .slice B1 cs.length d1, .slice C1 as_.length f1] 31
        have M0 := Lib.hid (N0.cell 0 rfl)
        have M1 := Lib.hid (N0.cell 1 rfl)
        have M2 := Lib.hid (N0.cell 2 rfl)
        have szp : w.heap.size + 1 ≤ (w9.alloc (.cells #[.slice A1 ms.length c1, .slice B1 cs.length d1, .slice C1 as_.length f1] 31)).heap.size := by have := B9a.out.lt; omega
        clear N0 o1 o2 o3 ap b9' ba
        refine hK.out _ _ (fun _ => ⟨(SS.out _ x9).1, (SS.out _ x9).2, y19⟩) ?_
        clear hK K
        try simp only [Act.put, List.setIfInBounds_toArray, List.set_cons_zero, List.set_cons_succ]
        refine anyR_one (i := 12) (by kernel_rfl) rfl ?_
        intro K hK
        go_simp
        refine hK.out _ _ (fun _ => ⟨(SS.out _ x9a).1, (SS.out _ x9a).2, y19a⟩) ?_
        clear hK K
        try simp only [Act.put, List.setIfInBounds_toArray, List.set_cons_zero, List.set_cons_succ]
        refine anyR_one (i := 13) (by kernel_rfl) rfl ?_
        intro K hK
        refine step_app_bp _ (by rfl) _ _ (by rfl) (w.heap.size + 1) B j d hv (by rfl) HD9.out (.slice A1 ms.length c1) (.slice B1 cs.length d1) (.slice C1 as_.length f1) rfl rfl rfl w9.heap.size (by rfl) M0.out M1.out M2.out (by omega) szp ?_
        intro B7 d7 w10 q1 q2
        have B10 := Lib.hid (B9a.out.keepP P9.out.hd q2)
        have PB10 := P9.out.proof (L := w8.heap.size) (p := ⟨ms, cs, as_⟩) (by omega) P8.out.tops.1 P8.out.tops.2 O1.out O2.out O3.out AP.out q1 q2
        have x10 : Below w0.heap.size w0 w10 := Below.grown x9a q2 x9a.size (fun k hk => by have := (P9.out.hd.lt k hk).1; omega)
        have st := B10.out.set1 (.slice B7 (j + 1) d7)
        have BF := Lib.hid st.1
        have PF := Lib.hid (PB10.keep B10.out st.2)
        have x11 := x10.setCell (p := ⟨g, 1, none⟩) hgw (.slice B7 (j + 1) d7)
        have c71 := B10.out.cells.2.1
        have f71 := B10.out.free 1
        clear q1 q2 st PB10
        refine hK.out _ _ (fun _ => ⟨(SS.out _ x10).1, (SS.out _ x10).2, c71⟩) ?_
        clear hK K
        try simp only [Act.put, List.setIfInBounds_toArray, List.set_cons_zero, List.set_cons_succ]
        refine anyR_one (i := 14) (by kernel_rfl) rfl ?_
        intro K hK
        go_simp
        refine hK.out _ _ (fun h => absurd h (by decide)) ?_
        clear hK K
        try simp only [Act.put, List.setIfInBounds_toArray, List.set_cons_zero, List.set_cons_succ]
        refine anyR_one (i := 15) (by kernel_rfl) rfl ?_
        intro K hK
        go_simp
        refine hK.out _ _ (fun h => absurd h (by decide)) ?_
        clear hK K
        try simp only [Act.put, List.setIfInBounds_toArray, List.set_cons_zero, List.set_cons_succ]
        refine anyR_done (by kernel_rfl) ?_ _
        refine NoPanic.normal ?_
        clear hS0
        go_wp2_with fail
        go_roundw
        case rel => exact ⟨j + 1, A7, c7, B7, d7, _, by omega, by go_num, BF.out, by rw [CS.out, CP.out]; exact PF.out, x11⟩
        case measure => simp [intOf]; omega
    · obtain rfl : j = 3 := by omega
      obtain ⟨k0, k1, k2⟩ := HB.out.cells
      have RW0 := Lib.hid ((RR.out).below HL.out)
      have C0 := RW0.out
      have q0r := C0.cell 0 rfl
      have q1r := C0.cell 1 rfl
      have q2r := C0.cell 2 rfl
      have f0r := C0.free 0 rfl
      have f1r := C0.free 1 rfl
      have f2r := C0.free 2 rfl
      have ltr := C0.1
      have hfin := bel_trans x0 HL.out
      have G := ((hfin.setCell (p := ⟨w.heap.size, 0, none⟩) (Nat.le_refl _) (.slice A' 3 c')).setCell (p := ⟨w.heap.size, 1, none⟩) (Nat.le_refl _) (.slice B 3 d)).setCell (p := ⟨w.heap.size, 2, none⟩) (Nat.le_refl _) (.int .i64 key)
      have PF := (((HP.out.far (g' := w.heap.size) (by omega) 0 (.slice A' 3 c')).far (g' := w.heap.size) (by omega) 1 (.slice B 3 d)).far (g' := w.heap.size) (by omega) 2 (.int .i64 key)).mono (b2 := w.heap.size) (by omega)
      have D := ((C0.set 0 (.slice A' 3 c') (by simp)).set 1 (.slice B 3 d) (by simp)).set 2 (.int .i64 key) (by simp)
      have PFH := Lib.hid PF
      have DH := Lib.hid D
      clear PF D C0
      go_wp2_with fail
      obtain ⟨w9, hw9⟩ : ∃ w9, ((wr.setCell ⟨w.heap.size, 0, none⟩ (.slice A' 3 c')).setCell ⟨w.heap.size, 1, none⟩ (.slice B 3 d)).setCell ⟨w.heap.size, 2, none⟩ (.int .i64 key) = w9 := ⟨_, rfl⟩
      rw [hw9] at PFH DH G ⊢
      have y0 := DH.out.cell 0 (v := .slice A' 3 c') (by simp)
      have y1 := DH.out.cell 1 (v := .slice B 3 d) (by simp)
      have y2 := DH.out.cell 2 (v := .int .i64 key) (by simp)
      exact bodyPost_ret (v := .agg #[.slice A' 3 c', .slice B 3 d, .int .i64 key]) (by simp [results, Try.results83, go_sem, y0, y1, y2]) rfl ⟨A', c', B, d, hv, by rw [HK.out], PFH.out, G⟩
end Go.Proofs.Ytnjnngnagdhaiaa
