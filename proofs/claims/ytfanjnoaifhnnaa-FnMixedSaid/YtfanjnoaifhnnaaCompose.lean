/- The composition of two mixes: the program and the model, walked. -/
import Derived.Test.YtfanjnoaifhnnaaMix
import Derived.Test.YtfanjnoaifhnnaaStepApp
namespace Go.Proofs.Ytfanjnoaifhnnaa
set_option linter.unusedVariables false
set_option maxRecDepth 100000
open Go.RowKit
def crow (K1 K2 : List Int) (c : Nat) : List Int := (List.range c).map fun j => (K1.getD j 0 + K2.getD j 0).tmod 500000003
theorem crow_zero (K1 K2 : List Int) : crow K1 K2 0 = [] := rfl
theorem crow_succ {K1 K2 : List Int} {c : Nat} {x y : Int} (hx : K1[c]? = some x) (hy : K2[c]? = some y) : crow K1 K2 (c + 1) = crow K1 K2 c ++ [(x + y).tmod 500000003] := by
  unfold crow
  rw [List.range_succ, List.map_append]
  simp [List.getD_eq_getElem?_getD, hx, hy]
def coneL (os os2 : List Int) (n : Nat) : List Int := (List.range n).map fun i => os.getD (os2.getD i 0).toNat 0
def callL (kss kss2 : List (List Int)) (os2 : List Int) (n : Nat) : List (List Int) := (List.range n).map fun i => crow (kss.getD (os2.getD i 0).toNat []) (kss2.getD i []) 3
theorem coneL_succ {os os2 : List Int} {k z : Nat} {o : Int} (hz : os2[k]? = some (z : Int)) (ho : os[z]? = some o) : coneL os os2 (k + 1) = coneL os os2 k ++ [o] := by
  unfold coneL
  rw [List.range_succ, List.map_append]
  simp [List.getD_eq_getElem?_getD, hz, ho]
theorem callL_succ {kss kss2 : List (List Int)} {os2 : List Int} {k z : Nat} {K1 K2 : List Int} (hz : os2[k]? = some (z : Int)) (h1 : kss[z]? = some K1) (h2 : kss2[k]? = some K2) : callL kss kss2 os2 (k + 1) = callL kss kss2 os2 k ++ [crow K1 K2 3] := by
  unfold callL
  rw [List.range_succ, List.map_append]
  simp [List.getD_eq_getElem?_getD, hz, h1, h2]
/-- A slice, rows that lie apart from it, and whether they are any good. -/
def GivesC (one : List Int) (all : List (List Int)) (b : Bool) (w : World) (e : Ending) (w' : World) : Prop :=
  ∃ A c B d vs, e = .returned (.tuple #[.slice A one.length c, .slice B all.length d, .bool b]) ∧ OwnI w' w.heap.size A one.length c one ∧ OwnM w' w.heap.size B all.length d vs all ∧ (∀ v ∈ vs, Apart (.slice A one.length c) v) ∧ Below w.heap.size w w'
def cmpB (os : List Int) (kss : List (List Int)) (os2 : List Int) (kss2 : List (List Int)) : Bool := mixB os kss os.length && mixB os2 kss2 os.length
def cmp1 (os : List Int) (kss : List (List Int)) (os2 : List Int) (kss2 : List (List Int)) : List Int := if cmpB os kss os2 kss2 then coneL os os2 os.length else []
def cmp2 (os : List Int) (kss : List (List Int)) (os2 : List Int) (kss2 : List (List Int)) : List (List Int) := if cmpB os kss os2 kss2 then callL kss kss2 os2 os.length else []
theorem cmp_bd (os : List Int) (kss : List (List Int)) (os2 : List Int) (kss2 : List (List Int)) : (cmp1 os kss os2 kss2).length ≤ 12 ∧ (cmp2 os kss os2 kss2).length ≤ 12 ∧ totL (cmp2 os kss os2 kss2) ≤ 36 := by
  cases h : cmpB os kss os2 kss2
  · simp [cmp1, cmp2, h, totL]
  · have h1 : mixB os kss os.length = true := by unfold cmpB at h; simp at h; exact h.1
    have hl := (mixB_true.1 h1).1
    simp only [cmp1, cmp2, h, if_true]
    refine ⟨by simp [coneL]; omega, by simp [callL]; omega, ?_⟩
    have := totL_le (zss := callL kss kss2 os2 os.length) (b := 3) (fun zs hz => by
      unfold callL at hz
      obtain ⟨i, _, rfl⟩ := List.mem_map.1 hz
      simp [crow])
    have hc : (callL kss kss2 os2 os.length).length = os.length := by simp [callL]
    omega
theorem givesC_bad {w w' : World} {e : Ending} {os os2 : List Int} {kss kss2 : List (List Int)} (h : cmpB os kss os2 kss2 = false) (he : e = .returned (.tuple #[.slice none 0 0, .slice none 0 0, .bool false])) (hb : Below w.heap.size w w') :
    GivesC (cmp1 os kss os2 kss2) (cmp2 os kss os2 kss2) (cmpB os kss os2 kss2) w e w' := by
  simp only [cmp1, cmp2, h]
  exact ⟨none, 0, none, 0, [], he, ownI_nil _ _, ⟨World.ownsRow_nil _ _ _ _, rfl, by simp, .nil⟩, by simp, hb⟩
set_option maxHeartbeats 1000000 in
theorem specCompose_any (A : Option Addr) (n c : Nat) (os : List Int) (B : Option Addr) (m d : Nat) (kss : List (List Int)) (A2 : Option Addr) (n2 c2 : Nat) (os2 : List Int) (B2 : Option Addr) (m2 d2 : Nat) (kss2 : List (List Int)) (w : World)
    (h : Ints .i64 w A n c os) (k : Rws w B m d kss) (h2 : Ints .i64 w A2 n2 c2 os2) (k2 : Rws w B2 m2 d2 kss2) (hn : n ≤ 1048576) (hn2 : n2 ≤ 1048576) :
    Calls Try.prog 20 #[.slice A n c, .slice B m d, .slice A2 n2 c2, .slice B2 m2 d2] w (GivesC (cmp1 os kss os2 kss2) (cmp2 os kss os2 kss2) (cmpB os kss os2 kss2) w) := by
  have hl := Lib.hid h.1
  cases hm1 : mixB os kss n
  · have R : Hid (cmpB os kss os2 kss2 = false) := by show _ = _; unfold cmpB; rw [hl.out, hm1]; rfl
    have M1 := Lib.hid hm1
    clear hm1
    go_enter Try.func20, Try.ntmps20
    go_wp2_with fail
    refine (l09Mix_any A n c os B m d kss n _ h k hn).mono ?_
    rintro e w1 ⟨rfl, rfl⟩
    rw [M1.out]
    go_wp2_with fail
    go_ret3
    exact givesC_bad R.out rfl (Below.refl _ _)
  cases hm2 : mixB os2 kss2 n
  · have R : Hid (cmpB os kss os2 kss2 = false) := by show _ = _; unfold cmpB; rw [hl.out, hm2]; simp
    have M1 := Lib.hid hm1
    have M2 := Lib.hid hm2
    clear hm1 hm2
    go_enter Try.func20, Try.ntmps20
    go_wp2_with fail
    refine (l09Mix_any A n c os B m d kss n _ h k hn).mono ?_
    rintro e w1 ⟨rfl, rfl⟩
    rw [M1.out]
    go_wp2_with fail
    refine (l09Mix_any A2 n2 c2 os2 B2 m2 d2 kss2 n _ h2 k2 hn).mono ?_
    rintro e w1 ⟨rfl, rfl⟩
    rw [M2.out]
    go_wp2_with fail
    go_ret3
    exact givesC_bad R.out rfl (Below.refl _ _)
  have R : Hid (cmpB os kss os2 kss2 = true) := by show _ = _; unfold cmpB; rw [hl.out, hm1, hm2]; rfl
  have M1 := Lib.hid hm1
  have M2 := Lib.hid hm2
  obtain ⟨x12, y1, y2, y3, y4⟩ := mixB_true.1 hm1
  obtain ⟨_, z1, z2, z3, z4⟩ := mixB_true.1 hm2
  have I2 := Lib.hid (mix_in hm2)
  have L2 := Lib.hid z1
  have LK := Lib.hid y2
  have LK2 := Lib.hid z2
  have Y4 := Lib.hid y4
  have Z4 := Lib.hid z4
  obtain rfl : n = n2 := by rw [← h2.1, z1]
  obtain rfl : n = m := by rw [← k.1, y2]
  obtain rfl : n = m2 := by rw [← k2.1, z2]
  clear hm1 hm2 y1 y2 y3 y4 z1 z2 z3 z4
  go_enter Try.func20, Try.ntmps20
  go_wp2_with fail
  refine (l09Mix_any A n c os B n d kss n _ h k hn).mono ?_
  rintro e w1 ⟨rfl, rfl⟩
  rw [M1.out]
  go_wp2_with fail
  refine (l09Mix_any A2 n c2 os2 B2 n d2 kss2 n _ h2 k2 hn).mono ?_
  rintro e w1 ⟨rfl, rfl⟩
  rw [M2.out]
  go_wp2_with fail
  go_loopw [11, 12, 13] (fun a b t wr => ∃ (i : Nat) (A3 : Option Addr) (d3 : Nat) (A4 : Option Addr) (d4 : Nat) (vs : List Value), i ≤ n ∧ t = .int .i64 i ∧ a = .slice A3 i d3 ∧ b = .slice A4 i d4 ∧ OwnI wr w.heap.size A3 i d3 (coneL os os2 i) ∧
    OwnM wr w.heap.size A4 i d4 vs (callL kss kss2 os2 i) ∧ (∀ v ∈ vs, Apart (.slice A3 i d3) v) ∧ Below w.heap.size w wr) (fun _ _ t _ => n - (intOf t).toNat)
  case atStart =>
    exact ⟨0, _, _, _, _, [], Nat.zero_le _, rfl, rfl, rfl, (ownI_lit w).below (bel_alloc _ _), (by have := (ownM_lit (w.alloc (.cells #[] 2))).mono (b2 := w.heap.size) (by simp); simpa [callL] using this), by simp, bel_trans (bel_alloc _ _) (bel_alloc _ _)⟩
  case round =>
    obtain ⟨i, A3, d3, A4, d4, vs, hi, rfl, rfl, rfl, oI, oM, hap, hbel⟩ := hrel
    have HI := Lib.hid oI
    have HM := Lib.hid oM
    have HA := Lib.hid hap
    have hsz0 := hbel.size
    clear oI oM hap
    by_cases hlt : i < n
    · obtain ⟨bo2, oo2, z, rfl, hbo2, cz, z1, z2, hz⟩ := (h2.below hbel).at hlt
      obtain ⟨kz0, kz1⟩ := I2.out z (mem_of_at hz.out)
      obtain ⟨kz, rfl⟩ := Int.eq_ofNat_of_zero_le kz0
      obtain ⟨bo, oo, o, rfl, hbo, co, oz1, oz2, ho⟩ := (h.below hbel).at (j := kz) (by omega)
      have C1 := Lib.hid (coneL_succ hz.out ho.out)
      obtain ⟨bk, ok, Ak, mk, e1, K1, rfl, hbk, ck, ik, hK1⟩ := k.at (j := kz) (by omega)
      obtain ⟨bk2, ok2, Ak2, mk2, e2, K2, rfl, hbk2, ck2, ik2, hK2⟩ := k2.at hlt
      have CM := Lib.hid (callL_succ hz.out hK1.out hK2.out)
      obtain ⟨q1, q2⟩ := Y4.out K1 (mem_of_at hK1.out)
      obtain ⟨q3, q4⟩ := Z4.out K2 (mem_of_at hK2.out)
      obtain rfl : mk = 3 := by rw [← ik.1, q1]
      obtain rfl : mk2 = 3 := by rw [← ik2.1, q3]
      obtain ⟨b1, o1, rfl, hb1, hc1⟩ := ik.2.2.2.2 (by omega)
      obtain ⟨b2, o2, rfl, hb2, hc2⟩ := ik2.2.2.2.2 (by omega)
      have CK := Lib.hid (fun (W : World) (hb : Below w.heap.size w W) (q : Nat) (x y : Int) (hq : q < 3) (hx : K1[q]? = some x) (hy : K2[q]? = some y) =>
        (show W.cell? ⟨bk, ok + kz, none⟩ = some (.slice (some ⟨b1, o1, none⟩) 3 e1) ∧ W.cell? ⟨b1, o1 + q, none⟩ = some (.int .i64 x) ∧ W.cell? ⟨bk2, ok2 + i, none⟩ = some (.slice (some ⟨b2, o2, none⟩) 3 e2) ∧ W.cell? ⟨b2, o2 + q, none⟩ = some (.int .i64 y) from
          ⟨(hb.cell (p := ⟨bk, ok + kz, none⟩) hbk).trans ck, (hb.cell (p := ⟨b1, o1 + q, none⟩) hb1).trans (hc1 q x hx), (hb.cell (p := ⟨bk2, ok2 + i, none⟩) hbk2).trans ck2, (hb.cell (p := ⟨b2, o2 + q, none⟩) hb2).trans (hc2 q y hy)⟩))
      have l1 := Lib.hid q1
      have l2 := Lib.hid q3
      have B1 := Lib.hid q2
      have B2' := Lib.hid q4
      have c31 : e1 ≤ 9223372036854775807 := by have := ik.2.2.1; unfold maxLen at this; omega
      have c32 : e2 ≤ 9223372036854775807 := by have := ik2.2.2.1; unfold maxLen at this; omega
      clear ck ck2 ik ik2 q1 q2 q3 q4 hc1 hc2
      have i40 : i ≤ 1099511627776 := by omega
      go_wp2_with (at_builtin; refine app_int_at wr rfl _ _ rfl w.heap.size A3 i d3 _ rfl HI.out o oz1 oz2 rfl i40 hsz0 ?_; intro A5 d5 w3 p1 p2 p3; have HI3 := Lib.hid p1; have HM3 := Lib.hid (HM.out.kept p2 (own_ne HM.out.outer HI.out.1 (by decide)) (fun v hv => (HA.out v hv).symm)); have HA3 := Lib.hid (fun v hv => apart_step (HA.out v hv) p3 (fun x hx => (HM.out.blocks v hv x hx).2)); have bel3 : Below w.heap.size w w3 := hbel.grown p2 hsz0 (fun x hx => (HI.out.block x hx).1); clear p1 p2 p3)
      go_loopw [15, 16] (fun t i wr => ∃ (q : Nat) (A' : Option Addr) (c' : Nat), q ≤ 3 ∧ i = .int .i64 q ∧ t = .slice A' q c' ∧ OwnI wr w3.heap.size A' q c' (crow K1 K2 q) ∧ Below w3.heap.size w3 wr) (fun _ i _ => 3 - (intOf i).toNat)
      case atStart => exact ⟨0, _, _, by omega, rfl, rfl, (by simpa [crow_zero] using ownI_lit w3), bel_alloc _ _⟩
      case round =>
        obtain ⟨q, A', c', hq, rfl, rfl, hown, hbl⟩ := hrel
        have HO := Lib.hid hown
        have HBL := Lib.hid hbl
        have hsz := hbl.size
        have bel5 := bel3.trans (hbl.mono bel3.size)
        clear hown hbl
        by_cases hlq : q < 3
        · obtain ⟨x, hx⟩ : ∃ x, K1[q]? = some x := ⟨_, List.getElem?_eq_getElem (by rw [l1.out]; omega)⟩
          obtain ⟨y, hy⟩ : ∃ y, K2[q]? = some y := ⟨_, List.getElem?_eq_getElem (by rw [l2.out]; omega)⟩
          have bx := B1.out x (mem_of_at hx)
          have by_ := B2'.out y (mem_of_at hy)
          have SS := Lib.hid (fun W (hb : Below w.heap.size w W) => CK.out W hb q x y hlq hx hy)
          have s0 := SS.out _ bel5
          obtain ⟨r, hr⟩ : ∃ r, (x + y).tmod 500000003 = r := ⟨_, rfl⟩
          have br : 0 ≤ r ∧ r < 500000003 := by
            rw [← hr, Int.tmod_eq_emod_of_nonneg (by omega)]
            exact ⟨Int.emod_nonneg _ (by omega), Int.emod_lt_of_pos _ (by omega)⟩
          have ew : IntKind.i64.wrap (x + y) = x + y := IntWalk.i64_in _ (by omega)
          have CS := Lib.hid (crow_succ hx hy)
          rw [hr] at CS
          have t1 : Below w.heap.size w (wr.alloc (.cells #[.int .i64 r] 2)) := bel5.alloc bel5.size _
          have t0 : Below w.heap.size w wr := bel5
          have t1d : Below w.heap.size w ((wr.alloc (.cells #[.int .i64 r] 2)).drew) := ⟨t1.os, t1.tape, t1.output, t1.size, t1.block⟩
          have z0 : -9223372036854775808 ≤ r := by omega
          have z1 : r ≤ 9223372036854775807 := by omega
          have qk : q ≤ 1099511627776 := by omega
          have HOa := Lib.hid (HO.out.below (bel_alloc wr (.cells #[.int .i64 r] 2)))
          have hcn : (wr.alloc (.cells #[.int .i64 r] 2)).cell? ⟨wr.heap.size, 0, none⟩ = some (.int .i64 r) := by simp
          have hsa : w3.heap.size ≤ (wr.alloc (.cells #[.int .i64 r] 2)).heap.size := by simp; omega
          have HCN := Lib.hid hcn
          have blA : Below w3.heap.size w3 (wr.alloc (.cells #[.int .i64 r] 2)) := HBL.out.alloc hsz _
          clear hx hy hcn
          go_wp2_with fail
          go_region_held3 (fun w' => w'.cell? ⟨bk, ok + kz, none⟩ = some (.slice (some ⟨b1, o1, none⟩) 3 e1) ∧ w'.cell? ⟨b1, o1 + q, none⟩ = some (.int .i64 x) ∧ w'.cell? ⟨bk2, ok2 + i, none⟩ = some (.slice (some ⟨b2, o2, none⟩) 3 e2) ∧ w'.cell? ⟨b2, o2 + q, none⟩ = some (.int .i64 y)) (first | exact s0 | exact SS.out _ t0 | exact SS.out _ t2 | exact SS.out _ t1 | exact SS.out _ t1d) ((refine step_app_int _ (by rfl) _ _ (by rfl) w3.heap.size A' q c' _ (by rfl) HOa.out r z0 z1 wr.heap.size (by rfl) HCN.out qk hsa ?_; intro A7 c7 w7 p1 p2 p3; have P1 := Lib.hid p1; have P2 := Lib.hid p2; have blB : Below w3.heap.size w3 w7 := Below.grown (show Below w3.heap.size w3 ((wr.alloc (.cells #[.int .i64 r] 2)).drew) from ⟨blA.os, blA.tape, blA.output, blA.size, blA.block⟩) p2 hsa (fun x hx => (HO.out.block x hx).1); have t2 : Below w.heap.size w w7 := bel3.trans (blB.mono bel3.size); clear p1 p2 p3))
          go_wp2_with fail
          go_roundw
          case rel => exact ⟨q + 1, A7, c7, by omega, by go_num, rfl, by rw [CS.out]; exact P1.out, blB⟩
          case measure => simp [intOf]; omega
        · obtain rfl : q = 3 := by omega
          have HM5 := Lib.hid (HM3.out.below HBL.out)
          have HI5 := Lib.hid (HI3.out.below HBL.out)
          have apv := apart_new (base := w.heap.size) (fun v hv g hg => (HM3.out.blocks v hv g hg).2) HO.out
          have apo := apart_new (vs := [.slice A5 (i + 1) d5]) (base := w.heap.size) (fun v hv g hg => by simp at hv; subst hv; exact (HI3.out.block g hg).2) HO.out _ (List.mem_singleton.2 rfl)
          have APV := Lib.hid apv
          have APO := Lib.hid apo
          have HR := Lib.hid (HO.out.mono bel3.size)
          have sz5 := bel5.size
          clear apv apo
          go_wp2_with (at_builtin; refine app_row wr rfl _ _ rfl w.heap.size A4 i d4 vs _ rfl HM5.out A' 3 c' (crow K1 K2 3) HR.out APV.out rfl i40 sz5 ?_; intro A8 d8 w8 p1 p2; have P1 := Lib.hid p1; have HI8 := Lib.hid (HI5.out.kept p2 (own_ne HI5.out.1 HM5.out.outer (by decide))); have bel8 : Below w.heap.size w w8 := bel5.grown p2 sz5 (fun x hx => (HM5.out.block x hx).1); clear p1 p2)
          go_roundw
          case rel =>
            refine ⟨i + 1, A5, d5, A8, d8, _, by omega, by go_num, rfl, rfl, by rw [C1.out]; exact HI8.out, by rw [CM.out]; exact P1.out, fun v hv => ?_, bel8⟩
            rcases List.mem_append.1 hv with hv | hv
            · exact HA3.out v hv
            · simp at hv; subst hv; exact APO.out
          case measure => simp [intOf]; omega
    · obtain rfl : n = i := by omega
      have E1 : Hid (cmp1 os kss os2 kss2 = coneL os os2 n) := by show _ = _; unfold cmp1; rw [R.out, hl.out]; rfl
      have E2 : Hid (cmp2 os kss os2 kss2 = callL kss kss2 os2 n) := by show _ = _; unfold cmp2; rw [R.out, hl.out]; rfl
      have N1 : Hid ((coneL os os2 n).length = n) := by show _ = _; simp [coneL]
      have N2 : Hid ((callL kss kss2 os2 n).length = n) := by show _ = _; simp [callL]
      go_wp2_with fail
      go_ret3
      rw [E1.out, E2.out, R.out]
      exact ⟨A3, d3, A4, d4, vs, by rw [N1.out, N2.out]; rfl, by rw [N1.out]; exact HI.out, by rw [N2.out]; exact HM.out, by rw [N1.out]; exact HA.out, hbel⟩
set_option maxHeartbeats 1000000 in
theorem implCompose_any (A : Option Addr) (n c : Nat) (os : List Int) (B : Option Addr) (m d : Nat) (kss : List (List Int)) (A2 : Option Addr) (n2 c2 : Nat) (os2 : List Int) (B2 : Option Addr) (m2 d2 : Nat) (kss2 : List (List Int)) (w : World)
    (h : Ints .i64 w A n c os) (k : Rws w B m d kss) (h2 : Ints .i64 w A2 n2 c2 os2) (k2 : Rws w B2 m2 d2 kss2) (hn : n ≤ 1048576) (hn2 : n2 ≤ 1048576) :
    Calls Try.prog 22 #[.slice A n c, .slice B m d, .slice A2 n2 c2, .slice B2 m2 d2] w (GivesC (cmp1 os kss os2 kss2) (cmp2 os kss os2 kss2) (cmpB os kss os2 kss2) w) := by
  have hl := Lib.hid h.1
  cases hm1 : mixB os kss n
  · have R : Hid (cmpB os kss os2 kss2 = false) := by show _ = _; unfold cmpB; rw [hl.out, hm1]; rfl
    have M1 := Lib.hid hm1
    clear hm1
    go_enter Try.func22, Try.ntmps22
    go_wp2_with fail
    refine (isMix_any A n c os B m d kss n _ h k hn hn).mono ?_
    rintro e w1 ⟨rfl, b1⟩
    rw [M1.out]
    go_wp2_with fail
    go_ret3
    exact givesC_bad R.out rfl b1
  cases hm2 : mixB os2 kss2 n
  · have R : Hid (cmpB os kss os2 kss2 = false) := by show _ = _; unfold cmpB; rw [hl.out, hm2]; simp
    have M1 := Lib.hid hm1
    have M2 := Lib.hid hm2
    clear hm1 hm2
    go_enter Try.func22, Try.ntmps22
    go_wp2_with fail
    refine (isMix_any A n c os B m d kss n _ h k hn hn).mono ?_
    rintro e w1 ⟨rfl, b1⟩
    rw [M1.out]
    go_wp2_with fail
    refine (isMix_any A2 n2 c2 os2 B2 m2 d2 kss2 n _ (h2.below b1) (k2.below b1) hn2 hn).mono ?_
    rintro e w2 ⟨rfl, b2⟩
    have bb2 := bel_trans b1 b2
    rw [M2.out]
    go_wp2_with fail
    go_ret3
    exact givesC_bad R.out rfl bb2
  have R : Hid (cmpB os kss os2 kss2 = true) := by show _ = _; unfold cmpB; rw [hl.out, hm1, hm2]; rfl
  have M1 := Lib.hid hm1
  have M2 := Lib.hid hm2
  obtain ⟨x12, y1, y2, y3, y4⟩ := mixB_true.1 hm1
  obtain ⟨_, z1, z2, z3, z4⟩ := mixB_true.1 hm2
  have I2 := Lib.hid (mix_in hm2)
  have L2 := Lib.hid z1
  have LK := Lib.hid y2
  have LK2 := Lib.hid z2
  have Y4 := Lib.hid y4
  have Z4 := Lib.hid z4
  obtain rfl : n = n2 := by rw [← h2.1, z1]
  obtain rfl : n = m := by rw [← k.1, y2]
  obtain rfl : n = m2 := by rw [← k2.1, z2]
  clear hm1 hm2 y1 y2 y3 y4 z1 z2 z3 z4
  go_enter Try.func22, Try.ntmps22
  go_wp2_with fail
  refine (isMix_any A n c os B n d kss n _ h k hn hn).mono ?_
  rintro e w1 ⟨rfl, b1⟩
  rw [M1.out]
  go_wp2_with fail
  refine (isMix_any A2 n c2 os2 B2 n d2 kss2 n _ (h2.below b1) (k2.below b1) hn2 hn).mono ?_
  rintro e w2 ⟨rfl, b2⟩
  have bb2 := bel_trans b1 b2
  have sz2 := bb2.size
  rw [M2.out]
  go_wp2_with fail
  go_loopw [11, 12, 35] (fun a b t wr => ∃ (i : Nat) (A3 : Option Addr) (d3 : Nat) (A4 : Option Addr) (d4 : Nat) (vs : List Value), i ≤ n ∧ t = .int .i64 i ∧ a = .slice A3 i d3 ∧ b = .slice A4 i d4 ∧ OwnI wr w.heap.size A3 i d3 (coneL os os2 i) ∧
    OwnM wr w.heap.size A4 i d4 vs (callL kss kss2 os2 i) ∧ (∀ v ∈ vs, Apart (.slice A3 i d3) v) ∧ Below w.heap.size w wr) (fun _ _ t _ => n - (intOf t).toNat)
  case atStart =>
    exact ⟨0, _, _, _, _, [], Nat.zero_le _, rfl, rfl, rfl, ((ownI_lit w2).below (bel_alloc _ _)).mono sz2, (by have := (ownM_lit (w2.alloc (.cells #[] 2))).mono (b2 := w.heap.size) (by simp; omega); simpa [callL] using this), by simp, bel_trans bb2 (bel_trans (bel_alloc _ _) (bel_alloc _ _))⟩
  case round =>
    obtain ⟨i, A3, d3, A4, d4, vs, hi, rfl, rfl, rfl, oI, oM, hap, hbel⟩ := hrel
    have HI := Lib.hid oI
    have HM := Lib.hid oM
    have HA := Lib.hid hap
    have hsz0 := hbel.size
    clear oI oM hap
    by_cases hlt : i < n
    · obtain ⟨bo2, oo2, z, rfl, hbo2, cz, z1, z2, hz⟩ := (h2.below hbel).at hlt
      obtain ⟨kz0, kz1⟩ := I2.out z (mem_of_at hz.out)
      obtain ⟨kz, rfl⟩ := Int.eq_ofNat_of_zero_le kz0
      obtain ⟨bo, oo, o, rfl, hbo, co0, oz1, oz2, ho⟩ := h.at (j := kz) (by omega)
      have CO := Lib.hid (fun (W : World) (hb : Below w.heap.size w W) => (hb.cell (p := ⟨bo, oo + kz, none⟩) hbo).trans co0)
      obtain ⟨wo, hwo⟩ : ∃ wo : World, wo = wr := ⟨_, rfl⟩
      subst hwo
      clear co0
      have C1 := Lib.hid (coneL_succ hz.out ho.out)
      obtain ⟨bk, ok, Ak, mk, e1, K1, rfl, hbk, ck, ik, hK1⟩ := k.at (j := kz) (by omega)
      obtain ⟨bk2, ok2, Ak2, mk2, e2, K2, rfl, hbk2, ck2, ik2, hK2⟩ := k2.at hlt
      have CM := Lib.hid (callL_succ hz.out hK1.out hK2.out)
      obtain ⟨q1, q2⟩ := Y4.out K1 (mem_of_at hK1.out)
      obtain ⟨q3, q4⟩ := Z4.out K2 (mem_of_at hK2.out)
      obtain rfl : mk = 3 := by rw [← ik.1, q1]
      obtain rfl : mk2 = 3 := by rw [← ik2.1, q3]
      obtain ⟨b1, o1, rfl, hb1, hc1⟩ := ik.2.2.2.2 (by omega)
      obtain ⟨b2, o2, rfl, hb2, hc2⟩ := ik2.2.2.2.2 (by omega)
      have CK := Lib.hid (fun (W : World) (hb : Below w.heap.size w W) (q : Nat) (x y : Int) (hq : q < 3) (hx : K1[q]? = some x) (hy : K2[q]? = some y) =>
        (show W.cell? ⟨bk, ok + kz, none⟩ = some (.slice (some ⟨b1, o1, none⟩) 3 e1) ∧ W.cell? ⟨b1, o1 + q, none⟩ = some (.int .i64 x) ∧ W.cell? ⟨bk2, ok2 + i, none⟩ = some (.slice (some ⟨b2, o2, none⟩) 3 e2) ∧ W.cell? ⟨b2, o2 + q, none⟩ = some (.int .i64 y) from
          ⟨(hb.cell (p := ⟨bk, ok + kz, none⟩) hbk).trans ck, (hb.cell (p := ⟨b1, o1 + q, none⟩) hb1).trans (hc1 q x hx), (hb.cell (p := ⟨bk2, ok2 + i, none⟩) hbk2).trans ck2, (hb.cell (p := ⟨b2, o2 + q, none⟩) hb2).trans (hc2 q y hy)⟩))
      have l1 := Lib.hid q1
      have l2 := Lib.hid q3
      have B1 := Lib.hid q2
      have B2' := Lib.hid q4
      have c31 : e1 ≤ 9223372036854775807 := by have := ik.2.2.1; unfold maxLen at this; omega
      have c32 : e2 ≤ 9223372036854775807 := by have := ik2.2.2.1; unfold maxLen at this; omega
      clear ck ck2 ik ik2 q1 q2 q3 q4 hc1 hc2
      have i40 : i ≤ 1099511627776 := by omega
      go_wp2_with fail
      go_loopw [15, 41] (fun t i wr => ∃ (q : Nat) (A' : Option Addr) (c' : Nat), q ≤ 3 ∧ i = .int .i64 q ∧ t = .slice A' q c' ∧ OwnI wr wo.heap.size A' q c' (crow K1 K2 q) ∧ Below wo.heap.size wo wr) (fun _ i _ => 3 - (intOf i).toNat)
      case atStart => exact ⟨0, _, _, by omega, rfl, rfl, (by simpa [crow_zero] using ownI_lit wo), bel_alloc _ _⟩
      case round =>
        obtain ⟨q, A', c', hq, rfl, rfl, hown, hbl⟩ := hrel
        have HO := Lib.hid hown
        have HBL := Lib.hid hbl
        have hsz := hbl.size
        have bel5 := hbel.trans (hbl.mono hbel.size)
        clear hown hbl
        by_cases hlq : q < 3
        · obtain ⟨x, hx⟩ : ∃ x, K1[q]? = some x := ⟨_, List.getElem?_eq_getElem (by rw [l1.out]; omega)⟩
          obtain ⟨y, hy⟩ : ∃ y, K2[q]? = some y := ⟨_, List.getElem?_eq_getElem (by rw [l2.out]; omega)⟩
          have bx := B1.out x (mem_of_at hx)
          have by_ := B2'.out y (mem_of_at hy)
          have SS := Lib.hid (fun W (hb : Below w.heap.size w W) => CK.out W hb q x y hlq hx hy)
          have s0 := SS.out _ bel5
          obtain ⟨r, hr⟩ : ∃ r, (x + y).tmod 500000003 = r := ⟨_, rfl⟩
          have br : 0 ≤ r ∧ r < 500000003 := by
            rw [← hr, Int.tmod_eq_emod_of_nonneg (by omega)]
            exact ⟨Int.emod_nonneg _ (by omega), Int.emod_lt_of_pos _ (by omega)⟩
          have ew : IntKind.i64.wrap (x + y) = x + y := IntWalk.i64_in _ (by omega)
          have CS := Lib.hid (crow_succ hx hy)
          rw [hr] at CS
          have t1 : Below w.heap.size w (wr.alloc (.cells #[.int .i64 r] 2)) := bel5.alloc bel5.size _
          have t0 : Below w.heap.size w wr := bel5
          have t1d : Below w.heap.size w ((wr.alloc (.cells #[.int .i64 r] 2)).drew) := ⟨t1.os, t1.tape, t1.output, t1.size, t1.block⟩
          have z0 : -9223372036854775808 ≤ r := by omega
          have z1 : r ≤ 9223372036854775807 := by omega
          have qk : q ≤ 1099511627776 := by omega
          have HOa := Lib.hid (HO.out.below (bel_alloc wr (.cells #[.int .i64 r] 2)))
          have hcn : (wr.alloc (.cells #[.int .i64 r] 2)).cell? ⟨wr.heap.size, 0, none⟩ = some (.int .i64 r) := by simp
          have hsa : wo.heap.size ≤ (wr.alloc (.cells #[.int .i64 r] 2)).heap.size := by simp; omega
          have HCN := Lib.hid hcn
          have blA : Below wo.heap.size wo (wr.alloc (.cells #[.int .i64 r] 2)) := HBL.out.alloc hsz _
          clear hx hy hcn
          go_wp2_with fail
          go_region_held3 (fun w' => w'.cell? ⟨bk, ok + kz, none⟩ = some (.slice (some ⟨b1, o1, none⟩) 3 e1) ∧ w'.cell? ⟨b1, o1 + q, none⟩ = some (.int .i64 x) ∧ w'.cell? ⟨bk2, ok2 + i, none⟩ = some (.slice (some ⟨b2, o2, none⟩) 3 e2) ∧ w'.cell? ⟨b2, o2 + q, none⟩ = some (.int .i64 y)) (first | exact s0 | exact SS.out _ t0 | exact SS.out _ t2 | exact SS.out _ t1 | exact SS.out _ t1d) ((refine step_app_int _ (by rfl) _ _ (by rfl) wo.heap.size A' q c' _ (by rfl) HOa.out r z0 z1 wr.heap.size (by rfl) HCN.out qk hsa ?_; intro A7 c7 w7 p1 p2 p3; have P1 := Lib.hid p1; have P2 := Lib.hid p2; have blB : Below wo.heap.size wo w7 := Below.grown (show Below wo.heap.size wo ((wr.alloc (.cells #[.int .i64 r] 2)).drew) from ⟨blA.os, blA.tape, blA.output, blA.size, blA.block⟩) p2 hsa (fun x hx => (HO.out.block x hx).1); have t2 : Below w.heap.size w w7 := hbel.trans (blB.mono hbel.size); clear p1 p2 p3))
          go_wp2_with fail
          go_roundw
          case rel => exact ⟨q + 1, A7, c7, by omega, by go_num, rfl, by rw [CS.out]; exact P1.out, blB⟩
          case measure => simp [intOf]; omega
        · obtain rfl : q = 3 := by omega
          have HM5 := Lib.hid (HM.out.below HBL.out)
          have HI5 := Lib.hid (HI.out.below HBL.out)
          have apv := apart_new (base := w.heap.size) (fun v hv g hg => (HM.out.blocks v hv g hg).2) HO.out
          have apo := apart_new (vs := [.slice A3 i d3]) (base := w.heap.size) (fun v hv g hg => by simp at hv; subst hv; exact (HI.out.block g hg).2) HO.out _ (List.mem_singleton.2 rfl)
          have APV := Lib.hid apv
          have APO := Lib.hid apo
          have HR := Lib.hid (HO.out.mono hbel.size)
          have sz5 := bel5.size
          have co := CO.out wr bel5
          clear apv apo
          go_wp2_with (first
            | (at_builtin; refine app_int_at wr rfl _ _ rfl w.heap.size A3 i d3 _ rfl HI5.out o oz1 oz2 rfl i40 sz5 ?_; intro A5 d5 w6 p1 p2 p3; have HI6 := Lib.hid p1; have HM6 := Lib.hid (HM5.out.kept p2 (own_ne HM5.out.outer HI5.out.1 (by decide)) (fun v hv => (HA.out v hv).symm)); have HA6 := Lib.hid (fun v hv => apart_step (HA.out v hv) p3 (fun x hx => (HM5.out.blocks v hv x hx).2)); have HR6 := Lib.hid (HR.out.kept p2 APO.out.symm); have APO6 := Lib.hid (apart_step APO.out p3 (fun x hx => (HR.out.block x hx).2)); have bel6 : Below w.heap.size w w6 := bel5.grown p2 sz5 (fun x hx => (HI5.out.block x hx).1); have sz6 := bel6.size; clear p1 p2 p3)
            | (at_builtin; refine app_row w6 rfl _ _ rfl w.heap.size A4 i d4 vs _ rfl HM6.out A' 3 c' (crow K1 K2 3) HR6.out APV.out rfl i40 sz6 ?_; intro A8 d8 w8 p1 p2; have P1 := Lib.hid p1; have HI8 := Lib.hid (HI6.out.kept p2 (own_ne HI6.out.1 HM6.out.outer (by decide))); have bel8 : Below w.heap.size w w8 := bel6.grown p2 sz6 (fun x hx => (HM6.out.block x hx).1); clear p1 p2))
          go_roundw
          case rel =>
            refine ⟨i + 1, A5, d5, A8, d8, _, by omega, by go_num, rfl, rfl, by rw [C1.out]; exact HI8.out, by rw [CM.out]; exact P1.out, fun v hv => ?_, bel8⟩
            rcases List.mem_append.1 hv with hv | hv
            · exact HA6.out v hv
            · simp at hv; subst hv; exact APO6.out
          case measure => simp [intOf]; omega
    · obtain rfl : n = i := by omega
      have E1 : Hid (cmp1 os kss os2 kss2 = coneL os os2 n) := by show _ = _; unfold cmp1; rw [R.out, hl.out]; rfl
      have E2 : Hid (cmp2 os kss os2 kss2 = callL kss kss2 os2 n) := by show _ = _; unfold cmp2; rw [R.out, hl.out]; rfl
      have N1 : Hid ((coneL os os2 n).length = n) := by show _ = _; simp [coneL]
      have N2 : Hid ((callL kss kss2 os2 n).length = n) := by show _ = _; simp [callL]
      go_wp2_with fail
      go_ret3
      rw [E1.out, E2.out, R.out]
      exact ⟨A3, d3, A4, d4, vs, by rw [N1.out, N2.out]; rfl, by rw [N1.out]; exact HI.out, by rw [N2.out]; exact HM.out, by rw [N1.out]; exact HA.out, hbel⟩
end Go.Proofs.Ytfanjnoaifhnnaa
