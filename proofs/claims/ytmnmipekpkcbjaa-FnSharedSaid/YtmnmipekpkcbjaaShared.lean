/- The law FnShared, walked. -/
import Derived.Test.YtmnmipekpkcbjaaShare
namespace Go.Proofs.Ytmnmipekpkcbjaa
set_option linter.unusedVariables false
open Go.RowKit
/-- A total and weights as the law draws them. -/
def MadeWts (w : World) (e : Ending) (w' : World) : Prop :=
  ∃ (t : Int) (n : Nat) (A : Option Addr) (c : Nat) (ws : List Int), e = .returned (.tuple #[.int .i64 t, .slice A n c]) ∧ 0 ≤ t ∧ t ≤ 299 ∧ 1 ≤ n ∧ n ≤ 7 ∧ (∀ z ∈ ws, 0 ≤ z ∧ z ≤ 11) ∧ 1 ≤ ws.sum ∧ OwnI w' w.heap.size A n c ws ∧ Below w.heap.size w w'
theorem mem_snoc {p : Int → Prop} {zs : List Int} {z : Int} (h : ∀ y ∈ zs, p y) (hz : p z) : ∀ y ∈ zs ++ [z], p y := by
  intro y hy
  rcases List.mem_append.1 hy with hy | hy
  · exact h y hy
  · simp at hy; subst hy; exact hz
theorem own_ne_old {w : World} {base g : Nat} {A : Option Addr} {n c : Nat} {zs : List Int} (h : OwnI w base A n c zs) (hg : g < base) : (Value.slice A n c).ownBlock = none ∨ (Value.slice A n c).ownBlock ≠ some g := by
  cases hv : (Value.slice A n c).ownBlock with
  | none => exact .inl rfl
  | some x => exact .inr (fun e => by injection e with e; have := (h.block x hv).1; omega)
set_option maxHeartbeats 1000000 in
theorem B10Weights_any (A : Option Addr) (n c : Nat) (bs : List Int) (w : World) (h : Ints .u8 w A n c bs) :
    Calls Try.prog 5 #[.slice A n c] w (MadeWts w) := by
  go_enter Try.func5, Try.ntmps5
  go_wp2_with fail
  refine (l00From_any A n c bs _ h).mono ?_
  rintro e w1 ⟨g, rfl, hg, hs, hb⟩
  have hgl := hs.lt
  go_wp2_with fail
  refine (pick_any 9 g A n c bs 0 _ hs (by omega) (by omega) (by omega)).mono ?_
  rintro e w2 ⟨r, k1, rfl, hr, k10, k11, hs2, hg2⟩
  obtain ⟨r0, r1⟩ := hr.lt (by omega)
  have b2 := hb.grown hg2 hb.size (fun x hx => by injection hx with hx; omega)
  have z2 : w1.heap.size ≤ w2.heap.size := hg2.size
  have O0 := ownI_lits w2 [1 + r] (by intro z hz; simp at hz; subst hz; exact WalkArith.wf_i64 ⟨by omega, by omega⟩) (by simp)
  simp only [List.length_singleton, vals, List.map_cons, List.map_nil] at O0
  have hs3 := hs2.kept (bel_alloc w2 (.cells #[.int .i64 (1 + r)] 2))
  have b3 := bel_trans b2 (bel_alloc w2 (.cells #[.int .i64 (1 + r)] 2))
  have HO := Lib.hid (O0.mono z2)
  clear O0
  go_wp2_with fail
  refine (pick_any 7 g A n c bs k1 _ hs3 (by omega) (by omega) (by omega)).mono ?_
  rintro e w4 ⟨q, k4, rfl, hq, k40, k41, hs4, hg4⟩
  obtain ⟨q0, q1⟩ := hq.lt (by omega)
  obtain ⟨q, rfl⟩ := Int.eq_ofNat_of_zero_le q0
  have HO4 := Lib.hid (HO.out.kept hg4 (own_ne_old HO.out hgl))
  have b4 := b3.grown hg4 b3.size (fun x hx => by injection hx with hx; omega)
  have z4 : w1.heap.size ≤ w4.heap.size := by have := hg4.size; simp at this; omega
  go_wp2_with fail
  go_loopw [5, 6] (fun t i wr => ∃ (m j : Nat) (A' : Option Addr) (c' : Nat) (ws : List Int) (k : Nat), i = .int .i64 m ∧ t = .slice A' j c' ∧ 1 ≤ j ∧ j + m ≤ 7 ∧ (∀ z ∈ ws, 0 ≤ z ∧ z ≤ 11) ∧ 1 ≤ ws.sum ∧
    OwnI wr w1.heap.size A' j c' ws ∧ k ≤ 20 + 4 * j ∧ Src wr g A n c bs k ∧ Below w.heap.size w wr ∧ w1.heap.size ≤ wr.heap.size) (fun _ i _ => (intOf i).toNat)
  case atStart => exact ⟨q, 1, _, _, [1 + r], k4, rfl, rfl, Nat.le_refl _, by omega, by intro z hz; simp at hz; subst hz; omega, by simp; omega, HO4.out, by omega, hs4, b4, z4⟩
  case round =>
    obtain ⟨m, j, A', c', ws, k, rfl, rfl, hj1, hj, hw, hsum, oA, hk, hs5, hbel, hz⟩ := hrel
    have HA := Lib.hid oA
    have HW := Lib.hid hw
    clear oA hw
    rcases Nat.eq_zero_or_pos m with h0 | h0
    · subst h0
      go_wp2_with fail
      refine (pick_any 300 g A n c bs k _ hs5 (by omega) (by omega) (by omega)).mono ?_
      rintro e w5 ⟨v, k5, rfl, hv, k50, k51, hs6, hg5⟩
      obtain ⟨v0, v1⟩ := hv.lt (by omega)
      have HA5 := Lib.hid (HA.out.kept hg5 (own_ne_old HA.out hgl))
      have hbel5 : Below w.heap.size w w5 := hbel.grown hg5 hbel.size (fun x hx => by injection hx with hx; omega)
      go_wp2_with fail
      go_ret2
      exact ⟨v, j, A', c', ws, rfl, v0, by omega, hj1, by omega, HW.out, hsum, HA5.out.mono (by have := hb.size; omega), hbel5⟩
    · obtain ⟨m, rfl⟩ : ∃ q', m = q' + 1 := ⟨m - 1, by omega⟩
      rw [Int.natCast_add, Int.natCast_one]
      go_wp2_with fail
      refine (pick_any 12 g A n c bs k _ hs5 (by omega) (by omega) (by omega)).mono ?_
      rintro e w5 ⟨v, k5, rfl, hv, k50, k51, hs6, hg5⟩
      obtain ⟨v0, v1⟩ := hv.lt (by omega)
      have HA5 := Lib.hid (HA.out.kept hg5 (own_ne_old HA.out hgl))
      have hbel5 : Below w.heap.size w w5 := hbel.grown hg5 hbel.size (fun x hx => by injection hx with hx; omega)
      have hz5 := Nat.le_trans hz hg5.size
      have j40 : j ≤ 1099511627776 := by omega
      have v2 : -9223372036854775808 ≤ v := by omega
      have v3 : v ≤ 9223372036854775807 := by omega
      go_wp2_with (at_builtin; refine app_int_at w5 rfl _ _ rfl w1.heap.size A' j c' ws rfl HA5.out v v2 v3 rfl j40 hz5 ?_; intro A6 c6 w6 p1 p2 p3; have HA6 := Lib.hid p1; have hs7 := hs6.grown p2 (fun x hx => by have := (HA5.out.block x hx).1; omega); have hbel6 : Below w.heap.size w w6 := hbel5.grown p2 hbel5.size (fun x hx => by have := (HA5.out.block x hx).1; have := hb.size; omega); have hz6 := Nat.le_trans hz5 p2.size; clear p1 p2 p3)
      go_roundw
      case rel => exact ⟨m, j + 1, A6, c6, _, k5, by go_num, rfl, by omega, by omega, mem_snoc HW.out ⟨v0, by omega⟩, by rw [sum_snoc]; omega, HA6.out, by omega, hs7, hbel6, hz6⟩
      case measure => simp [intOf]
theorem b10Long_any (A : Option Addr) (n c : Nat) (B : Option Addr) (m d : Nat) (w : World) (hn : n ≤ 9223372036854775807) (hm : m ≤ 9223372036854775807) :
    Calls Try.prog 4 #[.slice A n c, .slice B m d] w fun e w' => e = .returned (.bool (decide ((1048576 : Int) < n) || decide ((1048576 : Int) < m))) ∧ w = w' := by
  by_cases h1 : 1048576 < n
  · go_enter Try.func4, Try.ntmps4
    go_wp2_with fail
    go_ret
    exact ⟨ret_bool (by simp), rfl⟩
  · go_enter Try.func4, Try.ntmps4
    go_wp2_with fail
    go_ret
    exact ⟨ret_bool (by have : ¬ (1048576 : Int) < n := by omega
                        simp [this]), rfl⟩
set_option maxRecDepth 100000 in
set_option maxHeartbeats 2000000 in
theorem fnShared_walk (w : World) (A : Option Addr) (n c : Nat) (zs : List Int) (h : Ints .u8 w A n c zs) (B : Option Addr) (m d : Nat) (ys : List Int) (k : Ints .u8 w B m d ys) :
    Calls Try.prog 3 #[.slice A n c, .slice B m d] w fun e w' => e = .returned (.bool true) ∧ Below w.heap.size w w' := by
  have hn := h.short
  have hm := k.short
  by_cases h1 : (decide ((1048576 : Int) < n) || decide ((1048576 : Int) < m)) = true
  · have H1 := Lib.hid h1
    clear h1
    go_enter Try.func3, Try.ntmps3
    go_wp2_with fail
    refine (b10Long_any A n c B m d _ hn hm).mono ?_
    rintro e w1 ⟨rfl, rfl⟩
    rw [H1.out]
    go_wp2_with fail
    go_ret
    exact ⟨rfl, Below.refl _ _⟩
  · have H1 : Hid ((decide ((1048576 : Int) < n) || decide ((1048576 : Int) < m)) = false) := by show _ = _; simpa using h1
    clear h1
    go_enter Try.func3, Try.ntmps3
    go_wp2_with fail
    refine (b10Long_any A n c B m d _ hn hm).mono ?_
    rintro e w1 ⟨rfl, rfl⟩
    rw [H1.out]
    go_wp2_with fail
    refine (B10Weights_any A n c zs _ h).mono ?_
    rintro e w2 ⟨t, q, W, cw, ws, rfl, t0, t1, q1, q7, hw, hs, oW, b2⟩
    have IW := oW.ints
    have hwl : ws.length = q := oW.len
    have HW := Lib.hid hw
    have SB := sum_bd hw
    rw [hwl] at SB
    have HWL := Lib.hid hwl
    clear oW hw hwl
    go_wp2_with fail
    refine (shareOut_any t W q cw ws _ IW t0 (by omega) q1 q7 (fun z hz => by have := HW.out z hz; omega) hs).mono ?_
    rintro e w3 ⟨P, cp, out, rfl, hsp, oP, b3⟩
    have b23 := bel_trans b2 b3
    have IP := oP.ints
    have IW3 := IW.below b3
    have HP := Lib.hid hsp
    have HPL := Lib.hid oP.len
    have PT := Lib.hid hsp.sum
    have PO : ∀ z ∈ out, 0 ≤ z ∧ z ≤ 1000000 := fun z hz => by
      obtain ⟨p, hp, e⟩ := List.getElem_of_mem hz
      have hp2 : p < ws.length := by rw [← hsp.len]; exact hp
      obtain ⟨x, hx, hx2⟩ := hsp.part p _ (List.getElem?_eq_getElem hp2)
      have e2 : out[p]? = some z := by rw [← e]; exact List.getElem?_eq_getElem hp
      rw [e2] at hx
      injection hx with hx
      have bw := HW.out _ (List.getElem_mem hp2)
      have := flr_le (t := t) (s := ws.sum) (z := ws[p]) t0 (by omega) hs bw.1 (by omega)
      omega
    have HPO := Lib.hid PO
    obtain ⟨s, hs2⟩ : ∃ s, ws.sum = s := ⟨_, rfl⟩
    rw [hs2] at HP hs SB
    have HS := Lib.hid hs2
    clear hsp oP PO hs2 IW
    go_wp2_with fail
    go_loop [9, 10, 11] (fun a b i => ∃ j : Nat, j ≤ q ∧ i = .int .i64 j ∧ a = .int .i64 (ws.take j).sum ∧ b = .int .i64 (out.take j).sum) (fun _ _ i => q - (intOf i).toNat)
    case atStart => exact ⟨0, Nat.zero_le _, rfl, by simp, by simp⟩
    case round =>
      obtain ⟨j, hj, rfl, rfl, rfl⟩ := hrel
      by_cases hlt : j < q
      · obtain ⟨bw, ow, z, rfl, hbw, cw', z1, z2, hz⟩ := IW3.at hlt
        obtain ⟨bp, op, x, rfl, hbp, cp', x1, x2, hx⟩ := IP.at hlt
        have bz := HW.out z (mem_of_at hz.out)
        have bx := HPO.out x (mem_of_at hx.out)
        have s1 := sum_bd (b := 11) (l := ws.take j) (fun y hy => HW.out y (List.mem_of_mem_take hy))
        have s2 := sum_bd (b := 1000000) (l := out.take j) (fun y hy => HPO.out y (List.mem_of_mem_take hy))
        have l1 : ((ws.take j).length : Int) ≤ 7 := by simp; omega
        have l2 : ((out.take j).length : Int) ≤ 7 := by simp; omega
        have T1 := Lib.hid (take_snoc' hz.out)
        have T2 := Lib.hid (take_snoc' hx.out)
        obtain ⟨S1, hS1⟩ : ∃ x, (ws.take j).sum = x := ⟨_, rfl⟩
        obtain ⟨S2, hS2⟩ : ∃ x, (out.take j).sum = x := ⟨_, rfl⟩
        rw [hS1] at s1 ⊢
        rw [hS2] at s2 ⊢
        have E1 := Lib.hid hS1
        have E2 := Lib.hid hS2
        clear hS1 hS2
        go_wp2_with fail
        go_round
        case rel => exact ⟨j + 1, by omega, by go_num, by rw [T1.out, sum_snoc, E1.out], by rw [T2.out, sum_snoc, E2.out]⟩
        case measure => simp [intOf]; omega
      · obtain rfl : q = j := by omega
        rw [List.take_of_length_le (by rw [HWL.out]; omega), List.take_of_length_le (by rw [HPL.out]; omega), HS.out, PT.out]
        go_wp2_with fail
        go_loopw [12] (fun i wr => ∃ (j nq : Nat), j ≤ q ∧ i = .int .i64 j ∧ wr = w3.drewN nq) (fun i _ => q - (intOf i).toNat)
        case atStart => exact ⟨0, 0, Nat.zero_le _, rfl, rfl⟩
        case round =>
          obtain ⟨j, nq, hj, rfl, rfl⟩ := hrel
          by_cases hlt : j < q
          · obtain ⟨bw, ow, z, rfl, hbw, cw', z1, z2, hz⟩ := IW3.at hlt
            obtain ⟨bp, op, x, rfl, hbp, cp', x1, x2, hx⟩ := IP.at hlt
            have bz := HW.out z (mem_of_at hz.out)
            have bx := HPO.out x (mem_of_at hx.out)
            obtain ⟨x', hx', hx2⟩ := HP.out.part j z hz.out
            rw [hx.out] at hx'
            obtain rfl : x = x' := by simpa using hx'
            have q0 := flr_le (t := t) (s := s) (z := z) t0 (by omega) hs bz.1 (by omega)
            obtain ⟨lo, hlo⟩ : ∃ f, flr t s z = f := ⟨_, rfl⟩
            rw [hlo] at q0 hx2
            unfold flr at hlo
            have m0 : 0 ≤ t * z := Int.mul_nonneg t0 bz.1
            have m1 : t * z ≤ 299 * 11 := Int.mul_le_mul t1 bz.2 bz.1 (by omega)
            have e1 : IntKind.i64.wrap (t * z) = t * z := IntWalk.i64_in _ (by omega)
            clear hx'
            rcases hx2 with hxl | hxl
            · have g1 : (x != lo) = false := by simp [hxl]
              subst hxl
              go_wp2_with fail
              go_loopw [14] (fun i wr => ∃ (k nq : Nat), k ≤ q ∧ i = .int .i64 k ∧ wr = w3.drewN nq) (fun i _ => q - (intOf i).toNat)
              case atStart => exact ⟨0, nq, Nat.zero_le _, rfl, rfl⟩
              case round =>
                obtain ⟨v, nq2, hv, rfl, rfl⟩ := hrel
                by_cases lt2 : v < q
                · obtain ⟨_, _, zv, ea, hb1, cv1, v1, v2, hzv⟩ := IW3.at lt2
                  simp only [Option.some.injEq, Addr.mk.injEq, and_true] at ea
                  obtain ⟨rfl, rfl⟩ := ea
                  obtain ⟨_, _, xv, ea, hb2, cv2, v3, v4, hxv⟩ := IP.at lt2
                  simp only [Option.some.injEq, Addr.mk.injEq, and_true] at ea
                  obtain ⟨rfl, rfl⟩ := ea
                  have FA := HP.out.fair j v z zv _ xv hz.out hzv.out hx.out hxv.out
                  by_cases hgt : zv < z
                  · have hle := FA hgt
                    have hd : decide (zv < z) = true := by simpa using hgt
                    clear FA
                    go_wp2_with fail
                    go_quiet (fail)
                    go_wp2_with fail
                    go_roundw
                    case rel => exact ⟨v + 1, _, by omega, by go_num, rfl⟩
                    case measure => simp [intOf]; omega
                  · have hd : decide (zv < z) = false := by simpa using hgt
                    clear FA
                    go_wp2_with fail
                    go_quiet (fail)
                    go_wp2_with fail
                    go_roundw
                    case rel => exact ⟨v + 1, _, by omega, by go_num, rfl⟩
                    case measure => simp [intOf]; omega
                · go_wp2_with fail
                  go_roundw
                  case rel => exact ⟨j + 1, nq2, by omega, by go_num, rfl⟩
                  case measure => simp [intOf]; omega
            · have g1 : (x != lo) = true := by simp; omega
              have g2 : (x != lo + 1) = false := by simp [hxl]
              subst hxl
              go_wp2_with fail
              go_loopw [14] (fun i wr => ∃ (k nq : Nat), k ≤ q ∧ i = .int .i64 k ∧ wr = w3.drewN nq) (fun i _ => q - (intOf i).toNat)
              case atStart => exact ⟨0, nq, Nat.zero_le _, rfl, rfl⟩
              case round =>
                obtain ⟨v, nq2, hv, rfl, rfl⟩ := hrel
                by_cases lt2 : v < q
                · obtain ⟨_, _, zv, ea, hb1, cv1, v1, v2, hzv⟩ := IW3.at lt2
                  simp only [Option.some.injEq, Addr.mk.injEq, and_true] at ea
                  obtain ⟨rfl, rfl⟩ := ea
                  obtain ⟨_, _, xv, ea, hb2, cv2, v3, v4, hxv⟩ := IP.at lt2
                  simp only [Option.some.injEq, Addr.mk.injEq, and_true] at ea
                  obtain ⟨rfl, rfl⟩ := ea
                  have FA := HP.out.fair j v z zv _ xv hz.out hzv.out hx.out hxv.out
                  by_cases hgt : zv < z
                  · have hle := FA hgt
                    have hd : decide (zv < z) = true := by simpa using hgt
                    clear FA
                    go_wp2_with fail
                    go_quiet (fail)
                    go_wp2_with fail
                    go_roundw
                    case rel => exact ⟨v + 1, _, by omega, by go_num, rfl⟩
                    case measure => simp [intOf]; omega
                  · have hd : decide (zv < z) = false := by simpa using hgt
                    clear FA
                    go_wp2_with fail
                    go_quiet (fail)
                    go_wp2_with fail
                    go_roundw
                    case rel => exact ⟨v + 1, _, by omega, by go_num, rfl⟩
                    case measure => simp [intOf]; omega
                · go_wp2_with fail
                  go_roundw
                  case rel => exact ⟨j + 1, nq2, by omega, by go_num, rfl⟩
                  case measure => simp [intOf]; omega
          · obtain rfl : q = j := by omega
            go_wp2_with fail
            go_ret
            exact ⟨by simp, below_drewN b23 _⟩
end Go.Proofs.Ytmnmipekpkcbjaa
