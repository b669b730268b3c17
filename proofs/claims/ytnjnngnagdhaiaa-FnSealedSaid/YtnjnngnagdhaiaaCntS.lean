/- The count of sealed ballots: the program and the model. -/
import Derived.Test.YtnjnngnagdhaiaaCast
namespace Go.Proofs.Ytnjnngnagdhaiaa
set_option linter.unusedVariables false
set_option maxRecDepth 100000
open Go.RowKit
def cntV (qs : List Bal) (ws : List Int) : List Int := if castB qs ws then cntL qs ws 3 else []
theorem cntL_len (qs : List Bal) (ws : List Int) (k : Nat) : (cntL qs ws k).length = k := by simp [cntL]
theorem balCol_len {qs : List Bal} {n : Nat} (hn : n ≤ qs.length) (k : Nat) : (balCol qs k n).length = n := by simp [balCol]; omega
set_option maxHeartbeats 1000000 in
theorem l09Count_any (A : Option Addr) (n c : Nat) (qs : List Bal) (B : Option Addr) (m d : Nat) (ws : List Int) (w : World) (h : Bals w A n c qs) (k : Ints .i64 w B m d ws) (hc : castB qs ws = true) :
    Calls Try.prog 87 #[.slice A n c, .slice B m d] w fun e w' => ∃ A' c', e = .returned (.slice A' 3 c') ∧ OwnI w' w.heap.size A' 3 c' (cntL qs ws 3) ∧ Below w.heap.size w w' := by
  have hm := h.short
  have hl := Lib.hid h.1
  obtain ⟨x12, ⟨lw, wz⟩, QS⟩ := cast_facts hc
  have HQ := Lib.hid QS
  have HWZ := Lib.hid wz
  have n12 : n ≤ 12 := by rw [hl.out] at x12; exact x12
  obtain rfl : n = m := by rw [← k.1, lw, hl.out]
  clear hc x12 lw wz QS
  go_enter Try.func87, Try.ntmps87
  go_wp2_with fail
  go_loopw [5, 6] (fun t i wr => ∃ (kk : Nat) (A1 : Option Addr) (c1 : Nat), kk ≤ 3 ∧ i = .int .i64 kk ∧ t = .slice A1 kk c1 ∧ OwnI wr w.heap.size A1 kk c1 (cntL qs ws kk) ∧ Below w.heap.size w wr) (fun _ i _ => 3 - (intOf i).toNat)
  case atStart => exact ⟨0, _, _, by omega, rfl, rfl, ownI_lit w, bel_alloc _ _⟩
  case round =>
    obtain ⟨kk, A1, c1, hkk, rfl, rfl, oO, hbel⟩ := hrel
    have HO := Lib.hid oO
    have hsz := hbel.size
    clear oO
    by_cases hl3 : kk < 3
    · obtain ⟨wo, hwo⟩ : ∃ wo : World, wo = wr := ⟨_, rfl⟩
      subst hwo
      have SZ := Lib.hid (balCol_seals (n := n) hl3 HQ.out)
      have CS := Lib.hid (cntL_succ qs ws kk)
      rw [hl.out] at CS
      have hd3 : decide ((kk : Int) < 3) = true := by simp; omega
      go_wp2_with fail
      clear hd3
      go_loopw [7, 8] (fun t i wr => ∃ (j : Nat) (A2 : Option Addr) (c2 : Nat), j ≤ n ∧ i = .int .i64 j ∧ t = .slice A2 j c2 ∧ OwnI wr wo.heap.size A2 j c2 (balCol qs kk j) ∧ Below wo.heap.size wo wr) (fun _ i _ => n - (intOf i).toNat)
      case atStart => exact ⟨0, _, _, Nat.zero_le _, rfl, rfl, by simpa [balCol] using ownI_lit wo, bel_alloc _ _⟩
      case round =>
        obtain ⟨j, A2, c2, hj, rfl, rfl, oI, hbl⟩ := hrel
        have HI := Lib.hid oI
        have sz5 := hbl.size
        have bel5 := hbel.trans (hbl.mono hsz)
        clear oI
        by_cases hlt : j < n
        · obtain ⟨b, off, q, rfl, hb, ⟨As, ns, cs, Bs, ms, ds, q0, q1, q2, i1, i2⟩, hq⟩ := h.at hlt
          obtain ⟨l3, hs⟩ := HQ.out q (mem_of_at hq.out)
          obtain rfl : ns = 3 := by rw [← i1.1, l3]
          obtain ⟨g, o, rfl, hg, hcl⟩ := i1.2.2.2.2 (by omega)
          obtain ⟨x, hx⟩ : ∃ x, q.ss[kk]? = some x := ⟨_, List.getElem?_eq_getElem (by omega)⟩
          have bx := sealB_true (hs x (mem_of_at hx))
          have k0 := (bel5.cell (p := ⟨b, off + j * 3, none⟩) hb).trans q0
          have k1 := (bel5.cell (p := ⟨g, o + kk, none⟩) hg).trans (hcl _ _ hx)
          have CN := Lib.hid (balCol_succ hq.out hx)
          have v1 : cs ≤ 9223372036854775807 := by have := i1.2.2.1; unfold maxLen at this; omega
          have z0 : -9223372036854775808 ≤ x := by omega
          have z1 : x ≤ 9223372036854775807 := by omega
          have j40 : j ≤ 1099511627776 := by omega
          clear q0 q1 q2 i1 i2 l3 hs hx hcl
          go_wp2_with (at_builtin; refine app_int_at wr rfl _ _ rfl wo.heap.size A2 j c2 _ rfl HI.out x z0 z1 rfl j40 sz5 ?_; intro A4 c4 w4 p1 p2 p3; have P1 := Lib.hid p1; have bl4 : Below wo.heap.size wo w4 := hbl.grown p2 sz5 (fun x hx => (HI.out.block x hx).1); clear p1 p2 p3)
          go_roundw
          case rel => exact ⟨j + 1, A4, c4, by omega, by go_num, rfl, by rw [CN.out]; exact P1.out, bl4⟩
          case measure => simp [intOf]; omega
        · obtain rfl : n = j := by omega
          have II := Lib.hid HI.out.ints
          have KB := Lib.hid (k.below bel5)
          have HO5 := Lib.hid (HO.out.below hbl)
          obtain ⟨r, hr⟩ : ∃ r, joinS (balCol qs kk n) ws = r := ⟨_, rfl⟩
          rw [hr] at CS
          have br := foldl_inv (fun o => 0 ≤ o ∧ o < 1000000007) joinSS_bd ((balCol qs kk n).zip ws) 1 (by decide)
          rw [show List.foldl joinSS 1 ((balCol qs kk n).zip ws) = r from hr] at br
          have HR := Lib.hid hr
          have z0 : -9223372036854775808 ≤ r := by omega
          have z1 : r ≤ 9223372036854775807 := by omega
          have k40 : kk ≤ 1099511627776 := by omega
          clear hr
          go_wp2_with fail
          refine (l09Join_any A2 n c2 (balCol qs kk n) _ _ ws _ II.out KB.out SZ HWZ).mono ?_
          rintro e w5 ⟨rfl, b5⟩
          rw [HR.out]
          have HO6 := Lib.hid (HO5.out.below b5)
          have bel6 := bel_trans bel5 b5
          have sz6 := bel6.size
          go_wp2_with (at_builtin; refine app_int_at w5 rfl _ _ rfl w.heap.size A1 kk c1 _ rfl HO6.out r z0 z1 rfl k40 sz6 ?_; intro A4 c4 w6 p1 p2 p3; have P1 := Lib.hid p1; have bl6 : Below w.heap.size w w6 := bel6.grown p2 sz6 (fun x hx => (HO6.out.block x hx).1); clear p1 p2 p3)
          go_roundw
          case rel => exact ⟨kk + 1, A4, c4, by omega, by go_num, rfl, by rw [CS.out]; exact P1.out, bl6⟩
          case measure => simp [intOf]; omega
    · obtain rfl : kk = 3 := by omega
      go_wp2_with fail
      go_ret
      exact ⟨A1, c1, rfl, HO.out, hbel⟩
theorem specCountSealed_any (A : Option Addr) (n c : Nat) (qs : List Bal) (B : Option Addr) (m d : Nat) (ws : List Int) (w : World) (h : Bals w A n c qs) (k : Ints .i64 w B m d ws) :
    Calls Try.prog 49 #[.slice A n c, .slice B m d] w (GivesI (cntV qs ws) (castB qs ws) w) := by
  cases hc : castB qs ws
  · have R := Lib.hid hc
    have V : Hid (cntV qs ws = []) := by show _ = _; unfold cntV; rw [hc]; rfl
    clear hc
    go_enter Try.func49, Try.ntmps49
    go_wp2_with fail
    refine (l09Cast_any A n c qs B m d ws _ h k).mono ?_
    rintro e w1 ⟨rfl, b1⟩
    rw [R.out]
    go_wp2_with fail
    go_ret2
    exact ⟨none, 0, by rw [V.out]; rfl, by rw [V.out]; exact ownI_nil _ _, b1⟩
  · have R := Lib.hid hc
    have V : Hid (cntV qs ws = cntL qs ws 3) := by show _ = _; unfold cntV; rw [hc]; rfl
    have L3 := Lib.hid (cntL_len qs ws 3)
    clear hc
    go_enter Try.func49, Try.ntmps49
    go_wp2_with fail
    refine (l09Cast_any A n c qs B m d ws _ h k).mono ?_
    rintro e w1 ⟨rfl, b1⟩
    rw [R.out]
    go_wp2_with fail
    refine (l09Count_any A n c qs B m d ws _ (h.below b1) (k.below b1) R.out).mono ?_
    rintro e w2 ⟨A', c', rfl, o, b2⟩
    have O := Lib.hid (o.mono b1.size)
    have bb := bel_trans b1 b2
    clear o
    go_wp2_with fail
    go_ret2
    exact ⟨A', c', by rw [V.out, L3.out]; rfl, by rw [V.out, L3.out]; exact O.out, bb⟩
end Go.Proofs.Ytnjnngnagdhaiaa
