/- Drawn elections, walked. -/
import Derived.Test.YtiodbjfchfmlcaaElD
namespace Go.Proofs.Ytiodbjfchfmlcaa
set_option linter.unusedVariables false
set_option linter.unusedSimpArgs false
set_option maxRecDepth 100000
open Go.RowKit Go.Deep
theorem SetP.wider {zs : List Int} {m m' : Int} (h : SetP zs m) (hm : m ≤ m') : SetP zs m' := ⟨fun z hz => by have := h.1 z hz; omega, h.2⟩
theorem SetP.snoc {zs : List Int} {p : Int} (h : SetP zs p) (hp : 0 ≤ p) : SetP (zs ++ [p]) (p + 1) := by
  refine ⟨fun z hz => ?_, fun i x y hx hy => ?_⟩
  · rcases List.mem_append.1 hz with hz | hz
    · have := h.1 z hz; omega
    · rw [List.mem_singleton] at hz; omega
  · have hl := (List.getElem?_eq_some_iff.1 hy).1
    rw [List.length_append] at hl
    simp at hl
    rcases Nat.lt_or_ge (i + 1) zs.length with h1 | h1
    · rw [List.getElem?_append_left (by omega)] at hx hy
      exact h.2 i x y hx hy
    · have hi : i + 1 = zs.length := by omega
      rw [List.getElem?_append_right (by omega), hi, Nat.sub_self] at hy
      simp at hy
      subst hy
      rw [List.getElem?_append_left (by omega)] at hx
      have := h.1 x (List.mem_of_getElem? hx)
      omega
theorem SetP.size {zs : List Int} {m : Nat} (h : SetP zs m) : zs.length ≤ m := by
  have key : ∀ (i : Nat) (x : Int), zs[i]? = some x → (i : Int) ≤ x := by
    intro i
    induction i with
    | zero => intro x hx; have := h.1 x (List.mem_of_getElem? hx); omega
    | succ i ih =>
      intro x hx
      have hl := (List.getElem?_eq_some_iff.1 hx).1
      have h1 := List.getElem?_eq_getElem (l := zs) (i := i) (by omega)
      have := ih _ h1
      have := h.2 i _ _ h1 hx
      omega
  rcases Nat.eq_zero_or_pos zs.length with h0 | h0
  · omega
  · have h1 := List.getElem?_eq_getElem (l := zs) (i := zs.length - 1) (by omega)
    have := key _ _ h1
    have := h.1 _ (List.mem_of_getElem? h1)
    omega
def DrawnE (g : Nat) (w : World) (r : Ending) (w' : World) : Prop :=
  ∃ (e : El) (CA : Option Addr) (m cc : Nat) (AA : Option Addr) (n ac : Nat) (vs : List Value), r = .returned (.agg #[.int .i64 e.mon, .slice CA m cc, .slice AA n ac]) ∧ EOk e ∧ OwnI w' w.heap.size CA m cc e.cs ∧ OwnM w' w.heap.size AA n ac vs e.ap ∧ w.grownBy w' (some g)
set_option maxHeartbeats 8000000 in
theorem l05DrawOk_any (g : Nat) (An : Option Addr) (nn cn : Nat) (bs : List Int) (w : World) (h : Src w g An nn cn bs 0) :
    Calls Try.prog 23 #[.pointer (some ⟨g, 0, none⟩)] w (DrawnE g w) := by
  have gl := h.lt
  have ba := bel_alloc w (.cells #[.int .i64 0, .slice none 0 0, .slice none 0 0] 27)
  have CG0 := Cs.new w [.int .i64 0, .slice none 0 0, .slice none 0 0] 27
  have S0 := Lib.hid (h.kept ba)
  have HG0 := Lib.hid CG0
  have G0 := Lib.hid (show w.grownBy (w.alloc (.cells #[.int .i64 0, .slice none 0 0, .slice none 0 0] 27)) (some g) from World.grownBy_alloc _ _ _)
  simp only [List.toArray] at HG0
  clear h ba CG0
  go_enter Try.func23, Try.ntmps23
  go_wp2_with fail
  refine (pick_any 20 g An nn cn bs 0 _ S0.out (by omega) (by omega) (by omega)).mono ?_
  rintro r w1 ⟨q, k1, rfl, hq, k10, k11, hs1, hg1⟩
  obtain ⟨q0, q1⟩ := hq.lt (by omega)
  have ew : IntKind.i64.wrap (4 + q) = 4 + q := IntWalk.i64_in _ (by omega)
  have b2 := bel_alloc w1 (.cells #[.int .i64 (4 + q), .slice none 0 0, .slice none 0 0] 27)
  have CE := Cs.new w1 [.int .i64 (4 + q), .slice none 0 0, .slice none 0 0] 27
  simp only [List.toArray] at CE
  have gne : g < w.heap.size := gl
  have l1 : w.heap.size < w1.heap.size := by have := hg1.size; simp at this; omega
  have D2 : DE w g An nn cn bs w.heap.size w1.heap.size (4 + q) none 0 0 [] none 0 0 [] [] (w1.alloc (.cells #[.int .i64 (4 + q), .slice none 0 0, .slice none 0 0] 27)) k1 :=
    ⟨gl, Nat.le_refl _, l1, hs1.kept b2, gr_bel' (grown_trans G0.out hg1) b2, (HG0.out.kept hg1 (by intro e; injection e with e; omega)).below b2, CE, ownI_nil _ _, ⟨World.ownsRow_nil _ _ _ _, rfl, by simp, .nil⟩⟩
  have D2 := Lib.hid D2
  clear hq hs1 hg1 b2 CE S0 G0 HG0
  go_upto_region 2 with fail
  obtain ⟨w2, hw2⟩ : ∃ x, w1.alloc (.cells #[.int .i64 (4 + q), .slice none 0 0, .slice none 0 0] 27) = x := ⟨_, rfl⟩
  rw [hw2] at D2
  rw [hw2]
  clear hw2
  obtain ⟨ge, hge⟩ : ∃ x, w1.heap.size = x := ⟨_, rfl⟩
  rw [hge] at D2 l1
  rw [hge]
  clear hge
  go_wp2_with fail
  refine (one_any 10 g An nn cn bs k1 _ D2.out.src (by omega) (by omega) (by omega)).mono ?_
  rintro r w3 ⟨p3, k3, rfl, k30, k31, hs3, hg3⟩
  have D3 := Lib.hid (D2.out.low hs3 hg3)
  clear hs3 hg3 D2
  go_upto_if 16 with fail
  go_cut [3] from 11 (fun s3 wc => s3 = .pointer (some ⟨ge, 0, none⟩) ∧ ∃ mon k, 0 ≤ mon ∧ mon ≤ 60 ∧ k ≤ 10 ∧ DE w g An nn cn bs w.heap.size ge mon none 0 0 [] none 0 0 [] [] wc k)
  case first =>
    cases p3
    · go_wp2_with fail
      go_meet
      case rel => exact ⟨rfl, 4 + q, k3, by omega, by omega, by omega, D3.out⟩
    · have b4 := bel_alloc w3 (.cells (vals [0, 1, 60]).toArray 2)
      have D4 := Lib.hid (D3.out.below b4)
      have I4 := Lib.hid (ownI_lits w3 [0, 1, 60] (by decide) (by decide)).ints
      have gl3 : g < w3.heap.size := D3.out.src.lt
      clear b4
      go_wp2_with fail
      refine Calls.mono (show Calls Try.prog _ _ _ _ from among_any (some ⟨w3.heap.size, 0, none⟩) 3 3 [0, 1, 60] (fun z => 0 ≤ z ∧ z ≤ 60) g An nn cn bs k3 _ D4.out.src (by omega) I4.out (by omega) (by intro a ha; injection ha with ha; subst ha; show w3.heap.size ≠ g; omega) (by intro z hz; simp at hz; omega)) ?_
      rintro r w4 ⟨z, k4, rfl, hz, k40, k41, hs4, hg4⟩
      have D5 := Lib.hid (D4.out.low hs4 hg4)
      have c0 := D5.out.ce.cell 0 rfl
      have f0 := D5.out.ce.free 0 rfl
      clear hs4 hg4 D4 I4 D3
      go_wp2_with fail
      go_meet
      case rel => exact ⟨rfl, z, k4, hz.1, hz.2, by omega, D5.out.setm z⟩
  case rest =>
  obtain ⟨rfl, mon, k4, mon0, mon1, k4b, d4⟩ := hcut
  have D4 := Lib.hid d4
  clear d4 D3 ew q0 q1 k10 k11 k30 k31
  go_wp2_with fail
  refine (pick_any 5 g An nn cn bs k4 _ D4.out.src (by omega) (by omega) (by omega)).mono ?_
  rintro r w5 ⟨m0, k5, rfl, hm0, k50, k51, hs5, hg5⟩
  obtain ⟨m00, m01⟩ := hm0.lt (by omega)
  have D5 := Lib.hid (D4.out.low hs5 hg5)
  have ew1 : IntKind.i64.wrap (1 + m0) = 1 + m0 := IntWalk.i64_in _ (by omega)
  clear hm0 hs5 hg5 D4
  go_wp2_with fail
  refine (one_any 8 g An nn cn bs k5 _ D5.out.src (by omega) (by omega) (by omega)).mono ?_
  rintro r w6 ⟨p6, k6, rfl, k60, k61, hs6, hg6⟩
  have D6 := Lib.hid (D5.out.low hs6 hg6)
  clear hs6 hg6 D5
  go_upto_if 25 with fail
  go_cut [4] from 11 (fun s4 wx => (∃ m : Nat, 1 ≤ m ∧ m ≤ 6 ∧ s4 = .int .i64 m) ∧ w6 = wx)
  case first =>
    cases p6
    · go_wp2_with fail
      go_meet
      case rel => exact ⟨⟨(1 + m0).toNat, by omega, by omega, by congr 1; omega⟩, rfl⟩
    · go_wp2_with fail
      go_meet
      case rel => exact ⟨⟨6, by omega, by omega, rfl⟩, rfl⟩
  case rest =>
  obtain ⟨⟨m, m1, m6, rfl⟩, rfl⟩ := hcut
  clear ew1
  go_wp2_with fail
  refine (pick_any 5 g An nn cn bs k6 _ D6.out.src (by omega) (by omega) (by omega)).mono ?_
  rintro r w7 ⟨n0, k7, rfl, hn0, k70, k71, hs7, hg7⟩
  obtain ⟨n00, n01⟩ := hn0.lt (by omega)
  have D7 := Lib.hid (D6.out.low hs7 hg7)
  have ew1 : IntKind.i64.wrap (1 + n0) = 1 + n0 := IntWalk.i64_in _ (by omega)
  clear hn0 hs7 hg7 D6
  go_wp2_with fail
  refine (one_any 8 g An nn cn bs k7 _ D7.out.src (by omega) (by omega) (by omega)).mono ?_
  rintro r w8 ⟨p8, k8, rfl, k80, k81, hs8, hg8⟩
  have D8 := Lib.hid (D7.out.low hs8 hg8)
  clear hs8 hg8 D7
  go_upto_if 30 with fail
  go_cut [5] from 11 (fun s5 wx => (∃ n : Nat, 1 ≤ n ∧ n ≤ 6 ∧ s5 = .int .i64 n) ∧ w8 = wx)
  case first =>
    cases p8
    · go_wp2_with fail
      go_meet
      case rel => exact ⟨⟨(1 + n0).toNat, by omega, by omega, by congr 1; omega⟩, rfl⟩
    · go_wp2_with fail
      go_meet
      case rel => exact ⟨⟨6, by omega, by omega, rfl⟩, rfl⟩
  case rest =>
  obtain ⟨⟨n, n1, n6, rfl⟩, rfl⟩ := hcut
  have kb8 : k8 ≤ 100 := by omega
  clear ew1 m00 m01 n00 n01 k4b k50 k51 k60 k61 k70 k71 k80 k81
  go_wp2_with fail
  go_loopw [6] (fun s6 wr => ∃ (k kk : Nat) (CA : Option Addr) (cc : Nat) (cs : List Int), k ≤ m ∧ s6 = .int .i64 k ∧ cs.length = k ∧ (∀ c ∈ cs, 1 ≤ c ∧ c ≤ 60) ∧ kk ≤ k8 + 10 * k ∧ DE w g An nn cn bs w.heap.size ge mon CA k cc cs none 0 0 [] [] wr kk) (fun t _ => m - (intOf t).toNat)
  case atStart => exact ⟨0, k8, none, 0, [], Nat.zero_le _, rfl, rfl, by simp, by omega, D8.out⟩
  case round =>
    obtain ⟨k, kk, CA, cc, cs, hk, rfl, hcl, hcs, hkk, hd⟩ := hrel
    have HCS := Lib.hid hcs
    have HD := Lib.hid hd
    clear hcs hd D8
    by_cases hlt : k < m
    · have d0 := decide_eq_true (show (k : Int) < (m : Int) by omega)
      go_wp2_with fail
      refine (pick_any 6 g An nn cn bs kk _ HD.out.src (by omega) (by omega) (by omega)).mono ?_
      rintro r w9 ⟨q, k9, rfl, hq, k90, k91, hs9, hg9⟩
      obtain ⟨q0, q1⟩ := hq.lt (by omega)
      have D9 := Lib.hid (HD.out.low hs9 hg9)
      have ew : IntKind.i64.wrap (1 + q) = 1 + q := IntWalk.i64_in _ (by omega)
      clear hq hs9 hg9 HD
      go_wp2_with fail
      refine (one_any 6 g An nn cn bs k9 _ D9.out.src (by omega) (by omega) (by omega)).mono ?_
      rintro r wa ⟨pa, ka, rfl, ka0, ka1, hsa, hga⟩
      have DA := Lib.hid (D9.out.low hsa hga)
      clear hsa hga D9
      go_upto_if 40 with fail
      go_cut [7] from 31 to 49 (fun s7 wx => ∃ (c : Int) (kb : Nat), 1 ≤ c ∧ c ≤ 60 ∧ s7 = .int .i64 c ∧ kb ≤ ka + 2 ∧ DE w g An nn cn bs w.heap.size ge mon CA k cc cs none 0 0 [] [] wx kb)
      case first =>
        cases pa
        · go_wp2_with fail
          go_meet
          case rel => exact ⟨1 + q, ka, by omega, by omega, rfl, by omega, DA.out⟩
        · go_wp2_with fail
          refine (pick_any 60 g An nn cn bs ka _ DA.out.src (by omega) (by omega) (by omega)).mono ?_
          rintro r wb ⟨q2, kb, rfl, hq2, kb0, kb1, hsb, hgb⟩
          obtain ⟨q20, q21⟩ := hq2.lt (by omega)
          have DB := Lib.hid (DA.out.low hsb hgb)
          have ew2 : IntKind.i64.wrap (1 + q2) = 1 + q2 := IntWalk.i64_in _ (by omega)
          clear hq2 hsb hgb
          go_wp2_with fail
          go_meet
          case rel => exact ⟨1 + q2, kb, by omega, by omega, rfl, by omega, DB.out⟩
      case rest =>
      obtain ⟨c, kb, c1, c60, rfl, kbb, db⟩ := hcut
      have DB := Lib.hid db
      have y1 := DB.out.ce.cell 1 rfl
      have lw : ge + 1 ≤ wc.heap.size := DB.out.ce.1
      have HCN := Lib.hid (show ∀ z ∈ cs ++ [c], 1 ≤ z ∧ z ≤ 60 from fun z hz => by
        rcases List.mem_append.1 hz with hz | hz
        · exact HCS.out z hz
        · rw [List.mem_singleton] at hz; omega)
      have hcl2 : (cs ++ [c]).length = k + 1 := by rw [List.length_append, hcl]; rfl
      clear db DA ew
      go_wp2_with (at_builtin; refine app_int wc rfl _ _ rfl (ge + 1) CA k cc _ rfl DB.out.co c (by omega) (by omega) rfl (by omega) lw ?_; intro A' c' wd p1 p2; obtain ⟨de, ce⟩ := DB.out.cost p1 p2; have DE2 := Lib.hid de; have z1 := ce.cell 1 rfl; have f1 := ce.free 1 rfl; clear de ce p1 p2 y1)
      go_roundw
      case rel => exact ⟨k + 1, kb, A', c', _, by omega, by go_num, hcl2, HCN.out, by omega, DE2.out⟩
      case measure => simp [intOf]; omega
    · obtain rfl : m = k := by omega
      have HCL := Lib.hid hcl
      have kkb : kk ≤ 200 := by omega
      clear hkk
      go_wp2_with fail
      go_loopw [8] (fun s8 wr => ∃ (j kk : Nat) (AA : Option Addr) (ac : Nat) (vs : List Value) (zss : List (List Int)), j ≤ n ∧ s8 = .int .i64 j ∧ (∀ r ∈ zss, SetP r m) ∧ kk ≤ 200 + 20 * j ∧ DE w g An nn cn bs w.heap.size ge mon CA m cc cs AA j ac vs zss wr kk) (fun t _ => n - (intOf t).toNat)
      case atStart => exact ⟨0, kk, none, 0, [], [], Nat.zero_le _, rfl, by simp, by omega, HD.out⟩
      case round =>
        obtain ⟨j, kk2, AA, ac, vs, zss, hj, rfl, hset, hk2, hd⟩ := hrel
        have HST := Lib.hid hset
        have HE := Lib.hid hd
        clear hset hd HD kkb
        by_cases hjn : j < n
        · have d1 := decide_eq_true (show (j : Int) < (n : Int) by omega)
          obtain ⟨wo, rfl⟩ : ∃ x, x = wr := ⟨_, rfl⟩
          have b9 := bel_alloc wo (.cells #[] 2)
          have E9 := Lib.hid (HE.out.src.kept b9)
          have O9 := Lib.hid (ownI_lit wo)
          have G9 := Lib.hid (show wo.grownBy (wo.alloc (.cells #[] 2)) (some g) from World.grownBy_alloc _ _ _)
          have glr : g < wo.heap.size := HE.out.src.lt
          clear b9
          go_wp2_with fail
          go_loopw [9, 10] (fun s9 t wr => ∃ (p L kk : Nat) (B : Option Addr) (bc : Nat) (zs : List Int), p ≤ m ∧ s9 = .slice B L bc ∧ t = .int .i64 p ∧ L ≤ p ∧ SetP zs p ∧ kk ≤ kk2 + 2 * p ∧ OwnI wr wo.heap.size B L bc zs ∧ Src wr g An nn cn bs kk ∧ wo.grownBy wr (some g)) (fun _ t _ => m - (intOf t).toNat)
          case atStart => exact ⟨0, 0, kk2, _, 0, [], Nat.zero_le _, rfl, rfl, Nat.le_refl _, SetP.nil _, by omega, O9.out, E9.out, G9.out⟩
          case round =>
            obtain ⟨p, L, k3, B, bc, zs, hp, rfl, rfl, hLp, hsp, hk3, ho, hs, hg⟩ := hrel
            have HSP := Lib.hid hsp
            have HO := Lib.hid ho
            have HS := Lib.hid hs
            have HG := Lib.hid hg
            have szq := hg.size
            clear hsp ho hs hg O9 E9 G9
            by_cases hpm : p < m
            · have d2 := decide_eq_true (show (p : Int) < (m : Int) by omega)
              go_wp2_with fail
              refine (one_any 3 g An nn cn bs k3 _ HS.out (by omega) (by omega) (by omega)).mono ?_
              rintro r wb ⟨pb, kb, rfl, kb0, kb1, hsb, hgb⟩
              have OB := Lib.hid (HO.out.kept hgb (blk_ne (fun x hx => (HO.out.block x hx).1) glr))
              have SB := Lib.hid hsb
              have GB := Lib.hid (grown_trans HG.out hgb)
              have szb : wo.heap.size ≤ wb.heap.size := GB.out.size
              clear hsb hgb HO HS HG
              cases pb
              · have NX := Lib.hid (show SetP (zs ++ [(p : Int)]) ((p + 1 : Nat) : Int) by have := HSP.out.snoc (by omega); push_cast; exact this)
                go_wp2_with (at_builtin; refine app_int wb rfl _ _ rfl wo.heap.size B L bc _ rfl OB.out (p : Int) (by omega) (by omega) rfl (by omega) szb ?_; intro A' c' wd p1 p2; have P1 := Lib.hid p1; have S1 := Lib.hid (SB.out.grown p2 (fun x hx => by have := (OB.out.block x hx).1; omega)); have G1 := Lib.hid (gr_app' GB.out p2 (fun x hx => (OB.out.block x hx).1)); clear p1 p2)
                go_roundw
                case rel => exact ⟨p + 1, L + 1, kb, A', c', _, by omega, rfl, by go_num, by omega, NX.out, by omega, P1.out, S1.out, G1.out⟩
                case measure => simp [intOf]; omega
              · have NX := Lib.hid (show SetP zs ((p + 1 : Nat) : Int) from HSP.out.wider (by omega))
                go_wp2_with fail
                go_roundw
                case rel => exact ⟨p + 1, L, kb, B, bc, zs, by omega, rfl, by go_num, by omega, NX.out, by omega, OB.out, SB.out, GB.out⟩
                case measure => simp [intOf]; omega
            · obtain rfl : m = p := by omega
              have DF := Lib.hid (HE.out.low HS.out HG.out)
              have y2 := DF.out.ce.cell 2 rfl
              have lw : ge + 1 ≤ wo.heap.size := HE.out.ce.1
              have lw2 : ge + 1 ≤ wr.heap.size := by omega
              have AP := Lib.hid (apart_new (base := wo.heap.size) (fun v hv x hx => (HE.out.ao.blocks v hv x hx).2) HO.out)
              have OO := Lib.hid (HO.out.mono lw)
              have NS := Lib.hid (show ∀ r ∈ zss ++ [zs], SetP r m from fun r hr => by
                rcases List.mem_append.1 hr with hr | hr
                · exact HST.out r hr
                · rw [List.mem_singleton] at hr; subst hr; exact HSP.out)
              clear HO HS HG HE
              go_wp2_with (at_builtin; refine app_row wr rfl _ _ rfl (ge + 1) AA j ac vs zss rfl DF.out.ao B L bc zs OO.out AP.out rfl (by omega) lw2 ?_; intro A' c' wd p1 p2; obtain ⟨de, ce⟩ := DF.out.appr p1 p2; have DE2 := Lib.hid de; have z1 := ce.cell 2 rfl; have f1 := ce.free 2 rfl; clear de ce p1 p2 y2)
              go_roundw
              case rel => exact ⟨j + 1, k3, A', c', _, _, by omega, by go_num, NS.out, by omega, DE2.out⟩
              case measure => simp [intOf]; omega
        · obtain rfl : n = j := by omega
          have c0 := HE.out.ce.cell 0 rfl
          have c1 := HE.out.ce.cell 1 rfl
          have c2 := HE.out.ce.cell 2 rfl
          have r0 := HE.out.cg.cell 0 rfl
          have r1 := HE.out.cg.cell 1 rfl
          have r2 := HE.out.cg.cell 2 rfl
          have f0 := HE.out.cg.free 0 rfl
          have f1 := HE.out.cg.free 1 rfl
          have f2 := HE.out.cg.free 2 rfl
          have C9 := ((HE.out.cg.set 0 (.int .i64 mon) (by simp)).set 1 (.slice CA m cc) (by simp)).set 2 (.slice AA n ac) (by simp)
          have z0 := C9.cell 0 rfl
          have z1 := C9.cell 1 rfl
          have z2 := C9.cell 2 rfl
          have gs0 := grown_set wr w.heap.size 0 (.int .i64 mon)
          have gs1 := grown_set (wr.setCell ⟨w.heap.size, 0, none⟩ (.int .i64 mon)) w.heap.size 1 (.slice CA m cc)
          have gs2 := grown_set ((wr.setCell ⟨w.heap.size, 0, none⟩ (.int .i64 mon)).setCell ⟨w.heap.size, 1, none⟩ (.slice CA m cc)) w.heap.size 2 (.slice AA n ac)
          have GS := Lib.hid (grown_trans (grown_trans gs0 gs1) gs2)
          have GR := Lib.hid (gr_app' HE.out.gr GS.out (fun x hx => by injection hx with hx; omega))
          have hGe := HE.out.Ge
          have CO := Lib.hid (HE.out.co.kept GS.out (blk_ne (fun x hx => (HE.out.co.block x hx).1) (by omega)))
          have AO := Lib.hid (HE.out.ao.kept_out GS.out (fun r hr => by injection hr with hr; omega))
          have OK := Lib.hid (show EOk ⟨mon, cs, zss⟩ from ⟨⟨mon0, mon1⟩, ⟨by show 1 ≤ cs.length; rw [HCL.out]; omega, by show cs.length ≤ 6; rw [HCL.out]; omega⟩, ⟨by show 1 ≤ zss.length; rw [HE.out.ao.len]; omega, by show zss.length ≤ 6; rw [HE.out.ao.len]; omega⟩, HCS.out, by intro r hr; show SetP r cs.length; rw [HCL.out]; exact HST.out r hr⟩)
          clear C9 gs0 gs1 gs2 GS
          go_wp2_with fail
          exact bodyPost_ret (v := .agg #[.int .i64 mon, .slice CA m cc, .slice AA n ac]) (by simp [results, Try.results23, go_sem, z0, z1, z2]) rfl ⟨⟨mon, cs, zss⟩, CA, m, cc, AA, n, ac, vs, rfl, OK.out, CO.out.mono (by omega), AO.out.mono (by omega), GR.out⟩
end Go.Proofs.Ytiodbjfchfmlcaa
