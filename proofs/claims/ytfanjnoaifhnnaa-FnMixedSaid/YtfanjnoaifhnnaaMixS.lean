/- Rows of seals mixed: the program and the model, walked. -/
import Derived.Test.YtfanjnoaifhnnaaMix
import Derived.Test.YtfanjnoaifhnnaaStepApp
namespace Go.Proofs.Ytfanjnoaifhnnaa
set_option linter.unusedVariables false
set_option maxRecDepth 100000
open Go.RowKit
def mrow (K1 K2 : List Int) (c : Nat) : List Int := (List.range c).map fun j => mm (K1.getD j 0) (pw 9 (K2.getD j 0).toNat)
theorem mrow_zero (K1 K2 : List Int) : mrow K1 K2 0 = [] := rfl
theorem mrow_succ {K1 K2 : List Int} {c : Nat} {x y : Int} (hx : K1[c]? = some x) (hy : K2[c]? = some y) : mrow K1 K2 (c + 1) = mrow K1 K2 c ++ [mm x (pw 9 y.toNat)] := by
  unfold mrow
  rw [List.range_succ, List.map_append]
  simp [List.getD_eq_getElem?_getD, hx, hy]
def mrows (rss kss : List (List Int)) (os : List Int) (n : Nat) : List (List Int) := (List.range n).map fun i => mrow (rss.getD (os.getD i 0).toNat []) (kss.getD i []) 3
theorem mrows_succ {rss kss : List (List Int)} {os : List Int} {k z : Nat} {K1 K2 : List Int} (hz : os[k]? = some (z : Int)) (h1 : rss[z]? = some K1) (h2 : kss[k]? = some K2) : mrows rss kss os (k + 1) = mrows rss kss os k ++ [mrow K1 K2 3] := by
  unfold mrows
  rw [List.range_succ, List.map_append]
  simp [List.getD_eq_getElem?_getD, hz, h1, h2]
def sealsB (rss : List (List Int)) : Bool := rss.all fun l => allB l 3 sealB
def mixSB (rss : List (List Int)) (os : List Int) (kss : List (List Int)) : Bool := mixB os kss rss.length && sealsB rss
def mixV (rss : List (List Int)) (os : List Int) (kss : List (List Int)) : List (List Int) := if mixSB rss os kss then mrows rss kss os rss.length else []
theorem mixV_bd (rss : List (List Int)) (os : List Int) (kss : List (List Int)) : (mixV rss os kss).length ≤ 12 ∧ totL (mixV rss os kss) ≤ 36 := by
  cases h : mixSB rss os kss
  · simp [mixV, h, totL]
  · have h1 : mixB os kss rss.length = true := by unfold mixSB at h; simp at h; exact h.1
    have hl := (mixB_true.1 h1).1
    simp only [mixV, h, if_true]
    refine ⟨by simp [mrows]; omega, ?_⟩
    have := totL_le (zss := mrows rss kss os rss.length) (b := 3) (fun zs hz => by
      unfold mrows at hz
      obtain ⟨i, _, rfl⟩ := List.mem_map.1 hz
      simp [mrow])
    have hc : (mrows rss kss os rss.length).length = rss.length := by simp [mrows]
    omega
/-- Rows and whether they are any good. -/
def GivesM (all : List (List Int)) (b : Bool) (w : World) (e : Ending) (w' : World) : Prop :=
  ∃ B d vs, e = .returned (.tuple #[.slice B all.length d, .bool b]) ∧ OwnM w' w.heap.size B all.length d vs all ∧ Below w.heap.size w w'
theorem givesM_bad {w w' : World} {e : Ending} {rss : List (List Int)} {os : List Int} {kss : List (List Int)} (h : mixSB rss os kss = false) (he : e = .returned (.tuple #[.slice none 0 0, .bool false])) (hb : Below w.heap.size w w') :
    GivesM (mixV rss os kss) (mixSB rss os kss) w e w' := by
  simp only [mixV, h]
  exact ⟨none, 0, [], he, ⟨World.ownsRow_nil _ _ _ _, rfl, by simp, .nil⟩, hb⟩
theorem sealsB_true {rss : List (List Int)} (h : sealsB rss = true) : ∀ l ∈ rss, l.length = 3 ∧ ∀ z ∈ l, 1 ≤ z ∧ z ≤ 1000000006 := by
  intro l hl
  have h1 := allB_true.1 (List.all_eq_true.1 h l hl)
  exact ⟨by have := h1.1; omega, fun z hz => sealB_true (h1.2 z hz)⟩
set_option maxHeartbeats 1000000 in
theorem specMixSeals_any (C : Option Addr) (n f : Nat) (rss : List (List Int)) (A : Option Addr) (n0 c : Nat) (os : List Int) (B : Option Addr) (k0 d : Nat) (kss : List (List Int)) (w : World)
    (hr : Rws w C n f rss) (h : Ints .i64 w A n0 c os) (k : Rws w B k0 d kss) (hm : n ≤ 1048576) (hn0 : n0 ≤ 1048576) :
    Calls Try.prog 28 #[.slice C n f, .slice A n0 c, .slice B k0 d] w (GivesM (mixV rss os kss) (mixSB rss os kss) w) := by
  have rl := Lib.hid hr.1
  have hms := hr.short
  cases hm1 : mixB os kss n
  · have R : Hid (mixSB rss os kss = false) := by show _ = _; unfold mixSB; rw [rl.out, hm1]; rfl
    have M1 := Lib.hid hm1
    clear hm1
    go_enter Try.func28, Try.ntmps28
    go_wp2_with fail
    refine (l09Mix_any A n0 c os B k0 d kss n _ h k hm).mono ?_
    rintro e w1 ⟨rfl, rfl⟩
    rw [M1.out]
    go_wp2_with fail
    go_ret2
    exact givesM_bad R.out rfl (Below.refl _ _)
  have M1 := Lib.hid hm1
  obtain ⟨x12, y1, y2, y3, y4⟩ := mixB_true.1 hm1
  have I2 := Lib.hid (mix_in hm1)
  have Z4 := Lib.hid y4
  obtain rfl : n = n0 := by rw [← h.1, y1]
  obtain rfl : n = k0 := by rw [← k.1, y2]
  clear hm1 y1 y2 y3 y4
  go_enter Try.func28, Try.ntmps28
  go_wp2_with fail
  refine (l09Mix_any A n c os B n d kss n _ h k hm).mono ?_
  rintro e w1 ⟨rfl, rfl⟩
  rw [M1.out]
  go_wp2_with fail
  go_loop [8] (fun i => ∃ j : Nat, j ≤ n ∧ i = .int .i64 j ∧ sealsB (rss.take j) = true) (fun i => n - (intOf i).toNat)
  case atStart => exact ⟨0, Nat.zero_le _, rfl, rfl⟩
  case round =>
    obtain ⟨j, hj, rfl, hall⟩ := hrel
    have H := Lib.hid hall
    clear hall
    by_cases hlt : j < n
    · obtain ⟨b, off, A', n', c', zs, rfl, hb, hcell, hi, hz⟩ := hr.at hlt
      have EX := Lib.hid (l09Seals_any A' n' c' zs 3 w hi)
      clear hi
      cases hp : allB zs 3 sealB
      · have HP := Lib.hid hp
        have R : Hid (mixSB rss os kss = false) := by
          show _ = _
          unfold mixSB
          rw [show sealsB rss = false from all_stop (p := fun l => allB l 3 sealB) hz.out hp]
          simp
        clear hp
        go_wp2_with fail
        refine EX.out.mono ?_
        rintro e w1 ⟨rfl, rfl⟩
        rw [HP.out]
        go_wp2_with fail
        go_ret2
        exact givesM_bad R.out rfl (Below.refl _ _)
      · have HP := Lib.hid hp
        clear hp
        go_wp2_with fail
        refine EX.out.mono ?_
        rintro e w1 ⟨rfl, rfl⟩
        rw [HP.out]
        go_wp2_with fail
        go_round
        case rel => exact ⟨j + 1, by omega, by go_num, all_next (p := fun l => allB l 3 sealB) hz.out H.out HP.out⟩
        case measure => simp [intOf]; omega
    · have HA : sealsB rss = true := all_end (p := fun l => allB l 3 sealB) (by rw [rl.out]; omega) H.out
      have Y4 := Lib.hid (sealsB_true HA)
      have R : Hid (mixSB rss os kss = true) := by show _ = _; unfold mixSB; rw [rl.out, M1.out, HA]; rfl
      obtain rfl : n = j := by omega
      clear HA H
      go_wp2_with fail
      go_loopw [9, 10] (fun b t wr => ∃ (i : Nat) (A4 : Option Addr) (d4 : Nat) (vs : List Value), i ≤ n ∧ t = .int .i64 i ∧ b = .slice A4 i d4 ∧ OwnM wr w.heap.size A4 i d4 vs (mrows rss kss os i) ∧ Below w.heap.size w wr) (fun _ t _ => n - (intOf t).toNat)
      case atStart => exact ⟨0, _, _, [], Nat.zero_le _, rfl, rfl, ownM_lit w, bel_alloc _ _⟩
      case round =>
        obtain ⟨i, A4, d4, vs, hi, rfl, rfl, oM, hbel⟩ := hrel
        have HM := Lib.hid oM
        have hsz0 := hbel.size
        clear oM
        by_cases hlt : i < n
        · obtain ⟨bo, oo, z, rfl, hbo, cz0, z1, z2, hz⟩ := h.at hlt
          obtain ⟨kz0, kz1⟩ := I2.out z (mem_of_at hz.out)
          obtain ⟨kz, rfl⟩ := Int.eq_ofNat_of_zero_le kz0
          obtain ⟨bk, ok, Ak, mk, e1, K1, rfl, hbk, ck, ik, hK1⟩ := hr.at (j := kz) (by omega)
          obtain ⟨bk2, ok2, Ak2, mk2, e2, K2, rfl, hbk2, ck2, ik2, hK2⟩ := k.at hlt
          have CM := Lib.hid (mrows_succ hz.out hK1.out hK2.out)
          obtain ⟨q1, q2⟩ := Y4.out K1 (mem_of_at hK1.out)
          obtain ⟨q3, q4⟩ := Z4.out K2 (mem_of_at hK2.out)
          obtain rfl : mk = 3 := by rw [← ik.1, q1]
          obtain rfl : mk2 = 3 := by rw [← ik2.1, q3]
          obtain ⟨b1, o1, rfl, hb1, hc1⟩ := ik.2.2.2.2 (by omega)
          obtain ⟨b2, o2, rfl, hb2, hc2⟩ := ik2.2.2.2.2 (by omega)
          have CZ := Lib.hid (fun (W : World) (hb : Below w.heap.size w W) => (show W.cell? ⟨bo, oo + i, none⟩ = some (.int .i64 kz) ∧ W.cell? ⟨bk, ok + kz, none⟩ = some (.slice (some ⟨b1, o1, none⟩) 3 e1) from ⟨(hb.cell (p := ⟨bo, oo + i, none⟩) hbo).trans cz0, (hb.cell (p := ⟨bk, ok + kz, none⟩) hbk).trans ck⟩))
          have CK := Lib.hid (fun (W : World) (hb : Below w.heap.size w W) (q : Nat) (x y : Int) (hq : q < 3) (hx : K1[q]? = some x) (hy : K2[q]? = some y) =>
            (show W.cell? ⟨bo, oo + i, none⟩ = some (.int .i64 kz) ∧ W.cell? ⟨bk, ok + kz, none⟩ = some (.slice (some ⟨b1, o1, none⟩) 3 e1) ∧ W.cell? ⟨b1, o1 + q, none⟩ = some (.int .i64 x) ∧ W.cell? ⟨bk2, ok2 + i, none⟩ = some (.slice (some ⟨b2, o2, none⟩) 3 e2) ∧ W.cell? ⟨b2, o2 + q, none⟩ = some (.int .i64 y) from
              ⟨(hb.cell (p := ⟨bo, oo + i, none⟩) hbo).trans cz0, (hb.cell (p := ⟨bk, ok + kz, none⟩) hbk).trans ck, (hb.cell (p := ⟨b1, o1 + q, none⟩) hb1).trans (hc1 q x hx), (hb.cell (p := ⟨bk2, ok2 + i, none⟩) hbk2).trans ck2, (hb.cell (p := ⟨b2, o2 + q, none⟩) hb2).trans (hc2 q y hy)⟩))
          have l1 := Lib.hid q1
          have l2 := Lib.hid q3
          have B1 := Lib.hid q2
          have B2' := Lib.hid q4
          have c31 : e1 ≤ 9223372036854775807 := by have := ik.2.2.1; unfold maxLen at this; omega
          have c32 : e2 ≤ 9223372036854775807 := by have := ik2.2.2.1; unfold maxLen at this; omega
          clear ck ck2 ik ik2 q1 q2 q3 q4 hc1 hc2 cz0
          have i40 : i ≤ 1099511627776 := by omega
          obtain ⟨wo, hwo⟩ : ∃ wo : World, wo = wr := ⟨_, rfl⟩
          subst hwo
          obtain ⟨cz, cw⟩ := CZ.out _ hbel
          obtain ⟨cza, cwa⟩ := CZ.out (wo.alloc (.cells #[] 2)) (hbel.alloc hbel.size _)
          go_wp2_with fail
          go_loopw [11, 12] (fun t i wr => ∃ (q : Nat) (A' : Option Addr) (c' : Nat), q ≤ 3 ∧ i = .int .i64 q ∧ t = .slice A' q c' ∧ OwnI wr wo.heap.size A' q c' (mrow K1 K2 q) ∧ Below wo.heap.size wo wr) (fun _ i _ => 3 - (intOf i).toNat)
          case atStart => exact ⟨0, _, _, by omega, rfl, rfl, (by simpa [mrow_zero] using ownI_lit wo), bel_alloc _ _⟩
          case round =>
            obtain ⟨q, A', c', hq, rfl, rfl, hown, hbl⟩ := hrel
            have HO := Lib.hid hown
            have HBL := Lib.hid hbl
            have hsz := hbl.size
            have bel5 := hbel.trans (hbl.mono hbel.size)
            clear hown hbl
            by_cases hlq : q < 3
            · obtain ⟨x, hx⟩ : ∃ x, K1[q]? = some x := ⟨_, List.getElem?_eq_getElem (by rw [l1.out]; omega)⟩
              obtain ⟨y, hy⟩ : ∃ y, K2[q]? = some y := ⟨_, List.getElem?_eq_getElem (by rw [l2.out]; omega)⟩
              have bx := B1.out x (mem_of_at hx)
              have by_ := B2'.out y (mem_of_at hy)
              have SS := Lib.hid (fun W (hb : Below w.heap.size w W) => CK.out W hb q x y hlq hx hy)
              have s0 := SS.out _ bel5
              obtain ⟨pp, hpp⟩ : ∃ r, pw 9 y.toNat = r := ⟨_, rfl⟩
              have bp : 0 ≤ pp ∧ pp < 1000000007 := by rw [← hpp]; exact ⟨pw_lo _ _, pw_hi _ _⟩
              obtain ⟨r, hr⟩ : ∃ r, mm x pp = r := ⟨_, rfl⟩
              have br : 0 ≤ r ∧ r < 1000000007 := by rw [← hr]; exact ⟨mm_lo _ _, mm_hi _ _⟩
              have m0 : 0 ≤ x * pp := Int.mul_nonneg (by omega) bp.1
              have m1 : x * pp ≤ 1000000007 * 1000000007 := Int.mul_le_mul (by omega) (by omega) bp.1 (by omega)
              have ew : IntKind.i64.wrap (x * pp) = x * pp := IntWalk.i64_in _ (by omega)
              have er : (x * pp).tmod 1000000007 = r := by rw [Int.tmod_eq_emod_of_nonneg m0]; exact hr
              have HP := Lib.hid hpp
              have HR := Lib.hid hr
              have CS := Lib.hid (mrow_succ hx hy)
              rw [hpp, hr] at CS
              have t1 : Below w.heap.size w (wr.alloc (.cells #[.int .i64 r] 2)) := bel5.alloc bel5.size _
              have t0 : Below w.heap.size w wr := bel5
              have t1d : Below w.heap.size w ((wr.alloc (.cells #[.int .i64 r] 2)).drew) := ⟨t1.os, t1.tape, t1.output, t1.size, t1.block⟩
              have z0 : -9223372036854775808 ≤ r := by omega
              have z1 : r ≤ 9223372036854775807 := by omega
              have qk : q ≤ 1099511627776 := by omega
              have HOa := Lib.hid (HO.out.below (bel_alloc wr (.cells #[.int .i64 r] 2)))
              have hcn : (wr.alloc (.cells #[.int .i64 r] 2)).cell? ⟨wr.heap.size, 0, none⟩ = some (.int .i64 r) := by simp
              have hsa : wo.heap.size ≤ (wr.alloc (.cells #[.int .i64 r] 2)).heap.size := by simp; omega
              have HCN := Lib.hid hcn
              have blA : Below wo.heap.size wo (wr.alloc (.cells #[.int .i64 r] 2)) := HBL.out.alloc hsz _
              clear hx hy hcn hpp hr
              go_wp2_with fail
              go_region_held3 (fun w' => w'.cell? ⟨bo, oo + i, none⟩ = some (.int .i64 kz) ∧ w'.cell? ⟨bk, ok + kz, none⟩ = some (.slice (some ⟨b1, o1, none⟩) 3 e1) ∧ w'.cell? ⟨b1, o1 + q, none⟩ = some (.int .i64 x) ∧ w'.cell? ⟨bk2, ok2 + i, none⟩ = some (.slice (some ⟨b2, o2, none⟩) 3 e2) ∧ w'.cell? ⟨b2, o2 + q, none⟩ = some (.int .i64 y)) (first | exact s0 | exact SS.out _ t0 | exact SS.out _ t2 | exact SS.out _ t1 | exact SS.out _ t1d) (first | (go_at_call 62; refine (l09Power_any _ _ _ (by omega) (by omega) (by omega) (by omega)).mono ?_; rintro e w' ⟨rfl, rfl⟩; rw [HP.out]) | (go_at_call 61; refine (l09Times_any _ _ _ (by omega) (by omega) (by omega) (by omega)).mono ?_; rintro e w' ⟨rfl, rfl⟩; rw [HR.out]) | (refine step_app_int _ (by rfl) _ _ (by rfl) wo.heap.size A' q c' _ (by rfl) HOa.out r z0 z1 wr.heap.size (by rfl) HCN.out qk hsa ?_; intro A7 c7 w7 p1 p2 p3; have P1 := Lib.hid p1; have P2 := Lib.hid p2; have blB : Below wo.heap.size wo w7 := Below.grown (show Below wo.heap.size wo ((wr.alloc (.cells #[.int .i64 r] 2)).drew) from ⟨blA.os, blA.tape, blA.output, blA.size, blA.block⟩) p2 hsa (fun x hx => (HO.out.block x hx).1); have t2 : Below w.heap.size w w7 := hbel.trans (blB.mono hbel.size); clear p1 p2 p3))
              go_wp2_with fail
              go_roundw
              case rel => exact ⟨q + 1, A7, c7, by omega, by go_num, rfl, by rw [CS.out]; exact P1.out, blB⟩
              case measure => simp [intOf]; omega
            · obtain rfl : q = 3 := by omega
              have HM5 := Lib.hid (HM.out.below HBL.out)
              have apv := apart_new (base := w.heap.size) (fun v hv g hg => (HM.out.blocks v hv g hg).2) HO.out
              have APV := Lib.hid apv
              have HR := Lib.hid (HO.out.mono hbel.size)
              have sz5 := bel5.size
              clear apv
              go_wp2_with (at_builtin; refine app_row wr rfl _ _ rfl w.heap.size A4 i d4 vs _ rfl HM5.out A' 3 c' (mrow K1 K2 3) HR.out APV.out rfl i40 sz5 ?_; intro A8 d8 w8 p1 p2; have P1 := Lib.hid p1; have bel8 : Below w.heap.size w w8 := bel5.grown p2 sz5 (fun x hx => (HM5.out.block x hx).1); clear p1 p2)
              go_roundw
              case rel => exact ⟨i + 1, A8, d8, _, by omega, by go_num, rfl, by rw [CM.out]; exact P1.out, bel8⟩
              case measure => simp [intOf]; omega
        · obtain rfl : n = i := by omega
          have E2 : Hid (mixV rss os kss = mrows rss kss os n) := by show _ = _; unfold mixV; rw [R.out, rl.out]; rfl
          have N2 : Hid ((mrows rss kss os n).length = n) := by show _ = _; simp [mrows]
          go_wp2_with fail
          go_ret2
          rw [E2.out, R.out]
          exact ⟨A4, d4, vs, by rw [N2.out]; rfl, by rw [N2.out]; exact HM.out, hbel⟩
set_option maxRecDepth 100000 in
theorem indexRows_seals (A : Option Addr) (n c : Nat) (zss : List (List Int)) (p : List Int → Bool) (w : World) (h : Rws w A n c zss)
   (hf : Hid (∀ (zs : List Int) (B : Option Addr) (m d : Nat) (wr : World), Ints .i64 wr B m d zs → Calls Try.prog 64 #[.slice B m d] wr fun e w' => e = .returned (.bool (p zs)) ∧ Below wr.heap.size wr w')) :
    Calls Try.prog 97 #[.slice A n c, .func (.func 64) #[] #[]] w (SomeIdx (zss.any p) w) := by
  have hm := h.short
  have hle : zss.length ≤ n := by have := h.1; omega
  go_enter Try.func97, Try.ntmps97
  go_wp2_with fail
  go_loopw [5, 8] (fun i j wr => ∃ k : Nat, k ≤ n ∧ j = .int .i64 k ∧ (zss.take k).any p = false ∧ Below w.heap.size w wr) (fun _ j _ => n - (intOf j).toNat)
  case atStart => exact ⟨0, Nat.zero_le _, rfl, rfl, Below.refl _ _⟩
  case round =>
    obtain ⟨k, hk, rfl, hall, hbel⟩ := hrel
    have H := Lib.hid hall
    clear hall
    by_cases hlt : k < n
    · obtain ⟨b, off, A', m, c', zs, rfl, hb, hcell, hi, hz⟩ := (h.below hbel).at hlt
      have hcall := Lib.hid (hf.out zs A' m c' wr hi)
      clear hi
      cases hp : p zs
      · have HP := Lib.hid hp
        clear hp
        go_wp2_with fail
        refine hcall.out.mono ?_
        rintro e w' ⟨rfl, hb2⟩
        rw [HP.out]
        have hb3 := bel_trans hbel hb2
        clear hb2
        go_wp2_with fail
        go_roundw
        case rel => exact ⟨k + 1, by omega, by go_num, any_next hz.out H.out HP.out, hb3⟩
        case measure => simp [intOf]; omega
      · have HP := Lib.hid hp
        clear hp
        go_wp2_with fail
        refine hcall.out.mono ?_
        rintro e w' ⟨rfl, hb2⟩
        rw [HP.out]
        have hb3 := bel_trans hbel hb2
        clear hb2
        go_wp2_with fail
        go_ret
        exact ⟨_, rfl, by rw [any_stop hz.out HP.out]; simp [IdxIs], hb3⟩
    · go_wp2_with fail
      go_ret
      exact ⟨_, rfl, by rw [any_end (by omega) H.out]; simp [IdxIs], hbel⟩
theorem containsRows_seals (A : Option Addr) (n c : Nat) (zss : List (List Int)) (p : List Int → Bool) (w : World) (h : Rws w A n c zss)
   (hf : Hid (∀ (zs : List Int) (B : Option Addr) (m d : Nat) (wr : World), Ints .i64 wr B m d zs → Calls Try.prog 64 #[.slice B m d] wr fun e w' => e = .returned (.bool (p zs)) ∧ Below wr.heap.size wr w')) :
    Calls Try.prog 63 #[.slice A n c, .func (.func 64) #[] #[]] w (fun e w' => e = .returned (.bool (zss.any p)) ∧ Below w.heap.size w w') := by
  go_enter Try.func63, Try.ntmps63
  go_wp2_with fail
  refine (indexRows_seals A n c zss p w h hf).mono ?_
  rintro e w' ⟨r, rfl, hr, hb⟩
  go_wp2_with fail
  go_ret
  exact ⟨ret_bool hr, hb⟩
theorem mixSeals1_any (zs : List Int) (B : Option Addr) (m d : Nat) (w : World) (h : Ints .i64 w B m d zs) :
    Calls Try.prog 64 #[.slice B m d] w fun e w' => e = .returned (.bool (!allB zs 3 sealB)) ∧ Below w.heap.size w w' := by
  go_enter Try.func64, Try.ntmps64
  go_wp2_with fail
  refine (areAll_implIsSeal B m d zs 3 _ h).mono ?_
  rintro e w1 ⟨rfl, b1⟩
  go_wp2_with fail
  go_ret
  exact ⟨rfl, b1⟩
theorem any_not_seals (rss : List (List Int)) : (rss.any fun l => !allB l 3 sealB) = !sealsB rss := by
  unfold sealsB
  induction rss with
  | nil => rfl
  | cons z t ih => simp only [List.any_cons, List.all_cons, ih, Bool.not_and]
set_option maxHeartbeats 1000000 in
theorem implMixSeals_any (C : Option Addr) (n f : Nat) (rss : List (List Int)) (A : Option Addr) (n0 c : Nat) (os : List Int) (B : Option Addr) (k0 d : Nat) (kss : List (List Int)) (w : World)
    (hr : Rws w C n f rss) (h : Ints .i64 w A n0 c os) (k : Rws w B k0 d kss) (hm : n ≤ 1048576) (hn0 : n0 ≤ 1048576) :
    Calls Try.prog 29 #[.slice C n f, .slice A n0 c, .slice B k0 d] w (GivesM (mixV rss os kss) (mixSB rss os kss) w) := by
  have rl := Lib.hid hr.1
  have hms := hr.short
  cases hm1 : mixB os kss n
  · have R : Hid (mixSB rss os kss = false) := by show _ = _; unfold mixSB; rw [rl.out, hm1]; rfl
    have M1 := Lib.hid hm1
    clear hm1
    go_enter Try.func29, Try.ntmps29
    go_wp2_with fail
    refine (isMix_any A n0 c os B k0 d kss n _ h k hn0 hm).mono ?_
    rintro e w1 ⟨rfl, b1⟩
    rw [M1.out]
    go_wp2_with fail
    go_ret2
    exact givesM_bad R.out rfl b1
  have M1 := Lib.hid hm1
  obtain ⟨x12, y1, y2, y3, y4⟩ := mixB_true.1 hm1
  have I2 := Lib.hid (mix_in hm1)
  have Z4 := Lib.hid y4
  obtain rfl : n = n0 := by rw [← h.1, y1]
  obtain rfl : n = k0 := by rw [← k.1, y2]
  clear hm1 y1 y2 y3 y4
  have AN := Lib.hid (any_not_seals rss)
  go_enter Try.func29, Try.ntmps29
  go_wp2_with fail
  refine (isMix_any A n c os B n d kss n _ h k hm hm).mono ?_
  rintro e w1 ⟨rfl, b1⟩
  rw [M1.out]
  go_wp2_with fail
  refine (containsRows_seals C n f rss (fun l => !allB l 3 sealB) _ (hr.below b1) (Lib.hid (fun zs B m d wr hi => mixSeals1_any zs B m d wr hi))).mono ?_
  rintro e w2 ⟨rfl, b2⟩
  have bb2 := bel_trans b1 b2
  have sz2 := bb2.size
  rw [AN.out]
  cases hs : sealsB rss
  · have R : Hid (mixSB rss os kss = false) := by show _ = _; unfold mixSB; rw [hs]; simp
    clear hs
    go_wp2_with fail
    go_ret2
    exact givesM_bad R.out rfl bb2
  · have Y4 := Lib.hid (sealsB_true hs)
    have R : Hid (mixSB rss os kss = true) := by show _ = _; unfold mixSB; rw [rl.out, M1.out, hs]; rfl
    clear hs
    go_wp2_with fail
    go_loopw [8, 27] (fun b t wr => ∃ (i : Nat) (A4 : Option Addr) (d4 : Nat) (vs : List Value), i ≤ n ∧ t = .int .i64 i ∧ b = .slice A4 i d4 ∧ OwnM wr w.heap.size A4 i d4 vs (mrows rss kss os i) ∧ Below w.heap.size w wr) (fun _ t _ => n - (intOf t).toNat)
    case atStart => exact ⟨0, _, _, [], Nat.zero_le _, rfl, rfl, (ownM_lit w2).mono sz2, bel_trans bb2 (bel_alloc _ _)⟩
    case round =>
      obtain ⟨i, A4, d4, vs, hi, rfl, rfl, oM, hbel⟩ := hrel
      have HM := Lib.hid oM
      have hsz0 := hbel.size
      clear oM
      by_cases hlt : i < n
      · obtain ⟨bo, oo, z, rfl, hbo, cz0, z1, z2, hz⟩ := h.at hlt
        obtain ⟨kz0, kz1⟩ := I2.out z (mem_of_at hz.out)
        obtain ⟨kz, rfl⟩ := Int.eq_ofNat_of_zero_le kz0
        obtain ⟨bk, ok, Ak, mk, e1, K1, rfl, hbk, ck, ik, hK1⟩ := hr.at (j := kz) (by omega)
        obtain ⟨bk2, ok2, Ak2, mk2, e2, K2, rfl, hbk2, ck2, ik2, hK2⟩ := k.at hlt
        have CM := Lib.hid (mrows_succ hz.out hK1.out hK2.out)
        obtain ⟨q1, q2⟩ := Y4.out K1 (mem_of_at hK1.out)
        obtain ⟨q3, q4⟩ := Z4.out K2 (mem_of_at hK2.out)
        obtain rfl : mk = 3 := by rw [← ik.1, q1]
        obtain rfl : mk2 = 3 := by rw [← ik2.1, q3]
        obtain ⟨b1, o1, rfl, hb1, hc1⟩ := ik.2.2.2.2 (by omega)
        obtain ⟨b2, o2, rfl, hb2, hc2⟩ := ik2.2.2.2.2 (by omega)
        have CZ := Lib.hid (fun (W : World) (hb : Below w.heap.size w W) => (show W.cell? ⟨bo, oo + i, none⟩ = some (.int .i64 kz) ∧ W.cell? ⟨bk, ok + kz, none⟩ = some (.slice (some ⟨b1, o1, none⟩) 3 e1) from ⟨(hb.cell (p := ⟨bo, oo + i, none⟩) hbo).trans cz0, (hb.cell (p := ⟨bk, ok + kz, none⟩) hbk).trans ck⟩))
        have CK := Lib.hid (fun (W : World) (hb : Below w.heap.size w W) (q : Nat) (x y : Int) (hq : q < 3) (hx : K1[q]? = some x) (hy : K2[q]? = some y) =>
          (show W.cell? ⟨bo, oo + i, none⟩ = some (.int .i64 kz) ∧ W.cell? ⟨bk, ok + kz, none⟩ = some (.slice (some ⟨b1, o1, none⟩) 3 e1) ∧ W.cell? ⟨b1, o1 + q, none⟩ = some (.int .i64 x) ∧ W.cell? ⟨bk2, ok2 + i, none⟩ = some (.slice (some ⟨b2, o2, none⟩) 3 e2) ∧ W.cell? ⟨b2, o2 + q, none⟩ = some (.int .i64 y) from
            ⟨(hb.cell (p := ⟨bo, oo + i, none⟩) hbo).trans cz0, (hb.cell (p := ⟨bk, ok + kz, none⟩) hbk).trans ck, (hb.cell (p := ⟨b1, o1 + q, none⟩) hb1).trans (hc1 q x hx), (hb.cell (p := ⟨bk2, ok2 + i, none⟩) hbk2).trans ck2, (hb.cell (p := ⟨b2, o2 + q, none⟩) hb2).trans (hc2 q y hy)⟩))
        have l1 := Lib.hid q1
        have l2 := Lib.hid q3
        have B1 := Lib.hid q2
        have B2' := Lib.hid q4
        have c31 : e1 ≤ 9223372036854775807 := by have := ik.2.2.1; unfold maxLen at this; omega
        have c32 : e2 ≤ 9223372036854775807 := by have := ik2.2.2.1; unfold maxLen at this; omega
        clear ck ck2 ik ik2 q1 q2 q3 q4 hc1 hc2 cz0
        have i40 : i ≤ 1099511627776 := by omega
        obtain ⟨wo, hwo⟩ : ∃ wo : World, wo = wr := ⟨_, rfl⟩
        subst hwo
        obtain ⟨cz, cw⟩ := CZ.out _ hbel
        obtain ⟨cza, cwa⟩ := CZ.out (wo.alloc (.cells #[] 2)) (hbel.alloc hbel.size _)
        go_wp2_with fail
        go_loopw [11, 38] (fun t i wr => ∃ (q : Nat) (A' : Option Addr) (c' : Nat), q ≤ 3 ∧ i = .int .i64 q ∧ t = .slice A' q c' ∧ OwnI wr wo.heap.size A' q c' (mrow K1 K2 q) ∧ Below wo.heap.size wo wr) (fun _ i _ => 3 - (intOf i).toNat)
        case atStart => exact ⟨0, _, _, by omega, rfl, rfl, (by simpa [mrow_zero] using ownI_lit wo), bel_alloc _ _⟩
        case round =>
          obtain ⟨q, A', c', hq, rfl, rfl, hown, hbl⟩ := hrel
          have HO := Lib.hid hown
          have HBL := Lib.hid hbl
          have hsz := hbl.size
          have bel5 := hbel.trans (hbl.mono hbel.size)
          clear hown hbl
          by_cases hlq : q < 3
          · obtain ⟨x, hx⟩ : ∃ x, K1[q]? = some x := ⟨_, List.getElem?_eq_getElem (by rw [l1.out]; omega)⟩
            obtain ⟨y, hy⟩ : ∃ y, K2[q]? = some y := ⟨_, List.getElem?_eq_getElem (by rw [l2.out]; omega)⟩
            have bx := B1.out x (mem_of_at hx)
            have by_ := B2'.out y (mem_of_at hy)
            have SS := Lib.hid (fun W (hb : Below w.heap.size w W) => CK.out W hb q x y hlq hx hy)
            have s0 := SS.out _ bel5
            obtain ⟨pp, hpp⟩ : ∃ r, pw 9 y.toNat = r := ⟨_, rfl⟩
            have bp : 0 ≤ pp ∧ pp < 1000000007 := by rw [← hpp]; exact ⟨pw_lo _ _, pw_hi _ _⟩
            obtain ⟨r, hr⟩ : ∃ r, mm x pp = r := ⟨_, rfl⟩
            have br : 0 ≤ r ∧ r < 1000000007 := by rw [← hr]; exact ⟨mm_lo _ _, mm_hi _ _⟩
            have m0 : 0 ≤ x * pp := Int.mul_nonneg (by omega) bp.1
            have m1 : x * pp ≤ 1000000007 * 1000000007 := Int.mul_le_mul (by omega) (by omega) bp.1 (by omega)
            have ew : IntKind.i64.wrap (x * pp) = x * pp := IntWalk.i64_in _ (by omega)
            have er : (x * pp).tmod 1000000007 = r := by rw [Int.tmod_eq_emod_of_nonneg m0]; exact hr
            have HP := Lib.hid hpp
            have HR := Lib.hid hr
            have CS := Lib.hid (mrow_succ hx hy)
            rw [hpp, hr] at CS
            have t1 : Below w.heap.size w (wr.alloc (.cells #[.int .i64 r] 2)) := bel5.alloc bel5.size _
            have t0 : Below w.heap.size w wr := bel5
            have t1d : Below w.heap.size w ((wr.alloc (.cells #[.int .i64 r] 2)).drew) := ⟨t1.os, t1.tape, t1.output, t1.size, t1.block⟩
            have z0 : -9223372036854775808 ≤ r := by omega
            have z1 : r ≤ 9223372036854775807 := by omega
            have qk : q ≤ 1099511627776 := by omega
            have HOa := Lib.hid (HO.out.below (bel_alloc wr (.cells #[.int .i64 r] 2)))
            have hcn : (wr.alloc (.cells #[.int .i64 r] 2)).cell? ⟨wr.heap.size, 0, none⟩ = some (.int .i64 r) := by simp
            have hsa : wo.heap.size ≤ (wr.alloc (.cells #[.int .i64 r] 2)).heap.size := by simp; omega
            have HCN := Lib.hid hcn
            have blA : Below wo.heap.size wo (wr.alloc (.cells #[.int .i64 r] 2)) := HBL.out.alloc hsz _
            clear hx hy hcn hpp hr
            obtain ⟨sc0, sc1, sc2, sc3, sc4⟩ := s0
            have hqk := hsz
            go_wp2_with fail
            refine (power_any _ _ _ (by omega) (by omega) (by omega) (by omega)).mono ?_
            rintro e w' ⟨rfl, rfl⟩
            rw [HP.out]
            go_wp2_with (at_builtin; refine app_int_at wr rfl _ _ rfl wo.heap.size A' q c' _ rfl HO.out r z0 z1 rfl qk hsz ?_; intro A7 c7 w7 p1 p2 p3; have P1 := Lib.hid p1; have blB : Below wo.heap.size wo w7 := HBL.out.grown p2 hsz (fun x hx => (HO.out.block x hx).1); clear p1 p2 p3)
            go_roundw
            case rel => exact ⟨q + 1, A7, c7, by omega, by go_num, rfl, by rw [CS.out]; exact P1.out, blB⟩
            case measure => simp [intOf]; omega
          · obtain rfl : q = 3 := by omega
            have HM5 := Lib.hid (HM.out.below HBL.out)
            have apv := apart_new (base := w.heap.size) (fun v hv g hg => (HM.out.blocks v hv g hg).2) HO.out
            have APV := Lib.hid apv
            have HR := Lib.hid (HO.out.mono hbel.size)
            have sz5 := bel5.size
            clear apv
            go_wp2_with (at_builtin; refine app_row wr rfl _ _ rfl w.heap.size A4 i d4 vs _ rfl HM5.out A' 3 c' (mrow K1 K2 3) HR.out APV.out rfl i40 sz5 ?_; intro A8 d8 w8 p1 p2; have P1 := Lib.hid p1; have bel8 : Below w.heap.size w w8 := bel5.grown p2 sz5 (fun x hx => (HM5.out.block x hx).1); clear p1 p2)
            go_roundw
            case rel => exact ⟨i + 1, A8, d8, _, by omega, by go_num, rfl, by rw [CM.out]; exact P1.out, bel8⟩
            case measure => simp [intOf]; omega
      · obtain rfl : n = i := by omega
        have E2 : Hid (mixV rss os kss = mrows rss kss os n) := by show _ = _; unfold mixV; rw [R.out, rl.out]; rfl
        have N2 : Hid ((mrows rss kss os n).length = n) := by show _ = _; simp [mrows]
        go_wp2_with fail
        go_ret2
        rw [E2.out, R.out]
        exact ⟨A4, d4, vs, by rw [N2.out]; rfl, by rw [N2.out]; exact HM.out, hbel⟩
end Go.Proofs.Ytfanjnoaifhnnaa
