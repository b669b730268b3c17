/- The count of sealed ballots: the program's side. -/
import Derived.Test.YtnjnngnagdhaiaaCntS
namespace Go.Proofs.Ytnjnngnagdhaiaa
set_option linter.unusedVariables false
set_option maxRecDepth 100000
open Go.RowKit
theorem countSealed1_any (A : Option Addr) (n c : Nat) (ss : List Int) (B : Option Addr) (m d : Nat) (ps : List Bp) (key : Int) (w : World) (h : Ints .i64 w A n c ss) (k : Bps w B m d ps) :
    Calls Try.prog 73 #[.agg #[.slice A n c, .slice B m d, .int .i64 key]] w fun e w' => e = .returned (.bool (!balB ss ps key)) ∧ Below w.heap.size w w' := by
  have b0 := bel_alloc w (.cells [.slice A n c, .slice B m d, .int .i64 key].toArray 48)
  go_enter Try.func73, Try.ntmps73
  go_wp2_with fail
  refine (implIsBallot_any A n c ss B m d ps key _ (h.below b0) (k.below b0)).mono ?_
  rintro e w1 ⟨rfl, b1⟩
  go_wp2_with fail
  go_ret
  exact ⟨rfl, bel_trans b0 b1⟩
set_option maxHeartbeats 1000000 in
theorem indexBal (A : Option Addr) (n c : Nat) (qs : List Bal) (w : World) (h : Bals w A n c qs) :
    Calls Try.prog 98 #[.slice A n c, .func (.func 73) #[] #[]] w (SomeIdx (qs.any fun q => !balQ q) w) := by
  have hm := h.short
  have hle : qs.length ≤ n := by have := h.1; omega
  go_enter Try.func98, Try.ntmps98
  go_wp2_with fail
  go_loopw [5, 8] (fun i j wr => ∃ k : Nat, k ≤ n ∧ j = .int .i64 k ∧ ((qs.take k).any fun q => !balQ q) = false ∧ Below w.heap.size w wr) (fun _ j _ => n - (intOf j).toNat)
  case atStart => exact ⟨0, Nat.zero_le _, rfl, rfl, Below.refl _ _⟩
  case round =>
    obtain ⟨k, hk, rfl, hall, hbel⟩ := hrel
    have H := Lib.hid hall
    clear hall
    by_cases hlt : k < n
    · obtain ⟨b, off, q, rfl, hb, ⟨A1, n1, c1, B1, m1, d1, q0, q1, q2, i1, i2⟩, hz⟩ := (h.below hbel).at hlt
      have hcall := Lib.hid (show Calls Try.prog 73 #[.agg #[.slice A1 n1 c1, .slice B1 m1 d1, .int .i64 q.key]] wr fun e w' => e = .returned (.bool (!balQ q)) ∧ Below wr.heap.size wr w' from countSealed1_any A1 n1 c1 q.ss B1 m1 d1 q.ps q.key wr i1 i2)
      clear i1 i2
      cases hp : balQ q
      · have HP := Lib.hid hp
        clear hp
        go_wp2_with fail
        refine hcall.out.mono ?_
        rintro e w' ⟨rfl, hb2⟩
        rw [HP.out]
        have hb3 := bel_trans hbel hb2
        clear hb2
        go_wp2_with fail
        go_ret
        exact ⟨_, rfl, by rw [any_stop (p := fun q => !balQ q) hz.out (by show (!balQ q) = true; rw [HP.out]; rfl)]; simp [IdxIs], hb3⟩
      · have HP := Lib.hid hp
        clear hp
        go_wp2_with fail
        refine hcall.out.mono ?_
        rintro e w' ⟨rfl, hb2⟩
        rw [HP.out]
        have hb3 := bel_trans hbel hb2
        clear hb2
        go_wp2_with fail
        go_roundw
        case rel => exact ⟨k + 1, by omega, by go_num, any_next (p := fun q => !balQ q) hz.out H.out (by show (!balQ q) = false; rw [HP.out]; rfl), hb3⟩
        case measure => simp [intOf]; omega
    · go_wp2_with fail
      go_ret
      exact ⟨_, rfl, by rw [any_end (by omega) H.out]; simp [IdxIs], hbel⟩
theorem any_bal : ∀ qs : List Bal, (qs.any fun q => !balQ q) = !qs.all balQ
  | [] => rfl
  | z :: t => by simp only [List.any_cons, List.all_cons, Bool.not_and, any_bal t]
theorem containsBal (A : Option Addr) (n c : Nat) (qs : List Bal) (w : World) (h : Bals w A n c qs) :
    Calls Try.prog 72 #[.slice A n c, .func (.func 73) #[] #[]] w (fun e w' => e = .returned (.bool (!qs.all balQ)) ∧ Below w.heap.size w w') := by
  have E := Lib.hid (any_bal qs)
  go_enter Try.func72, Try.ntmps72
  go_wp2_with fail
  refine (indexBal A n c qs w h).mono ?_
  rintro e w' ⟨r, rfl, hr, hb⟩
  rw [E.out] at hr
  go_wp2_with fail
  go_ret
  exact ⟨ret_bool hr, hb⟩
set_option maxHeartbeats 1000000 in
theorem implCountSealed_any (A : Option Addr) (n c : Nat) (qs : List Bal) (B : Option Addr) (m d : Nat) (ws : List Int) (w : World) (h : Bals w A n c qs) (k : Ints .i64 w B m d ws) :
    Calls Try.prog 30 #[.slice A n c, .slice B m d] w (GivesI (cntV qs ws) (castB qs ws) w) := by
  have hm := h.short
  have hl := Lib.hid h.1
  by_cases h12 : n ≤ 12
  · have CB := Lib.hid (fun W (hW : Bals W A n c qs) => containsBal A n c qs W hW)
    cases hq : qs.all balQ
    · have R : Hid (castB qs ws = false) := cast_bal hq
      have V : Hid (cntV qs ws = []) := by show _ = _; unfold cntV; rw [R.out]; rfl
      have HQ := Lib.hid hq
      clear hq
      go_enter Try.func30, Try.ntmps30
      go_wp2_with fail
      refine (CB.out _ h).mono ?_
      rintro e w1 ⟨rfl, b1⟩
      rw [HQ.out]
      go_wp2_with fail
      go_ret2
      exact ⟨none, 0, by rw [R.out, V.out]; rfl, by rw [V.out]; exact ownI_nil _ _, b1⟩
    · have HQ := Lib.hid hq
      cases hw : allB ws (n : Int) weightB
      · have R : Hid (castB qs ws = false) := cast_ws (by rw [hl.out]; exact hw)
        have V : Hid (cntV qs ws = []) := by show _ = _; unfold cntV; rw [R.out]; rfl
        have HW := Lib.hid hw
        clear hq hw
        go_enter Try.func30, Try.ntmps30
        go_wp2_with fail
        refine (CB.out _ h).mono ?_
        rintro e w1 ⟨rfl, b1⟩
        rw [HQ.out]
        go_wp2_with fail
        refine (areAll_isWeight B m d ws n _ (k.below b1)).mono ?_
        rintro e w2 ⟨rfl, b2⟩
        rw [HW.out]
        have bel2 := bel_trans b1 b2
        go_wp2_with fail
        go_ret2
        exact ⟨none, 0, by rw [R.out, V.out]; rfl, by rw [V.out]; exact ownI_nil _ _, bel2⟩
      · have hc : castB qs ws = true := cast_yes (by rw [hl.out]; exact h12) (by rw [hl.out]; exact hw) hq
        have R := Lib.hid hc
        have V : Hid (cntV qs ws = cntL qs ws 3) := by show _ = _; unfold cntV; rw [hc]; rfl
        have L3 := Lib.hid (cntL_len qs ws 3)
        have HW := Lib.hid hw
        obtain ⟨x12, ⟨lw, wz⟩, QS⟩ := cast_facts hc
        have QQ := Lib.hid QS
        have HWZ := Lib.hid wz
        obtain rfl : n = m := by rw [← k.1, lw, hl.out]
        clear hq hw hc x12 lw wz QS
        have hd12 : decide (12 < (n : Int)) = false := by simp; omega
        have CB' := Lib.hid (CB.out _ h)
        clear CB
        go_enter Try.func30, Try.ntmps30
        go_wp2_with fail
        refine CB'.out.mono ?_
        rintro e w1 ⟨rfl, b1⟩
        rw [HQ.out]
        go_wp2_with fail
        refine (areAll_isWeight B n d ws n _ (k.below b1)).mono ?_
        rintro e w2 ⟨rfl, b2⟩
        rw [HW.out]
        have bb2 := bel_trans b1 b2
        have sz2 := bb2.size
        go_wp2_with fail
        clear hd12 CB'
        go_loopw [6, 28] (fun t i wr => ∃ (kk : Nat) (A1 : Option Addr) (c1 : Nat), kk ≤ 3 ∧ i = .int .i64 kk ∧ t = .slice A1 kk c1 ∧ OwnI wr w.heap.size A1 kk c1 (cntL qs ws kk) ∧ Below w.heap.size w wr) (fun _ i _ => 3 - (intOf i).toNat)
        case atStart => exact ⟨0, _, _, by omega, rfl, rfl, (ownI_lit w2).mono sz2, bel_trans bb2 (bel_alloc _ _)⟩
        case round =>
          obtain ⟨kk, A1, c1, hkk, rfl, rfl, oO, hbel⟩ := hrel
          have HO := Lib.hid oO
          have hsz := hbel.size
          clear oO
          by_cases hl3 : kk < 3
          · obtain ⟨wo, hwo⟩ : ∃ wo : World, wo = wr := ⟨_, rfl⟩
            subst hwo
            have SZ := Lib.hid (balCol_seals (n := n) hl3 QQ.out)
            have CS := Lib.hid (cntL_succ qs ws kk)
            rw [hl.out] at CS
            have hd3 : decide ((kk : Int) < 3) = true := by simp; omega
            go_wp2_with fail
            clear hd3
            go_loopw [8, 34] (fun t i wr => ∃ (j : Nat) (A2 : Option Addr) (c2 : Nat), j ≤ n ∧ i = .int .i64 j ∧ t = .slice A2 j c2 ∧ OwnI wr wo.heap.size A2 j c2 (balCol qs kk j) ∧ Below wo.heap.size wo wr) (fun _ i _ => n - (intOf i).toNat)
            case atStart => exact ⟨0, _, _, Nat.zero_le _, rfl, rfl, by simpa [balCol] using ownI_lit wo, bel_alloc _ _⟩
            case round =>
              obtain ⟨j, A2, c2, hj, rfl, rfl, oI, hbl⟩ := hrel
              have HI := Lib.hid oI
              have sz5 := hbl.size
              have bel5 := hbel.trans (hbl.mono hsz)
              clear oI
              by_cases hlt : j < n
              · obtain ⟨b, off, q, rfl, hb, ⟨As, ns, cs, Bs, ms, ds, q0, q1, q2, i1, i2⟩, hq⟩ := h.at hlt
                obtain ⟨l3, hs⟩ := QQ.out q (mem_of_at hq.out)
                obtain rfl : ns = 3 := by rw [← i1.1, l3]
                obtain ⟨g, o, rfl, hg, hcl⟩ := i1.2.2.2.2 (by omega)
                obtain ⟨x, hx⟩ : ∃ x, q.ss[kk]? = some x := ⟨_, List.getElem?_eq_getElem (by omega)⟩
                have bx := sealB_true (hs x (mem_of_at hx))
                have k0 := (bel5.cell (p := ⟨b, off + j * 3, none⟩) hb).trans q0
                have k1' := (bel5.cell (p := ⟨b, off + j * 3 + 1, none⟩) hb).trans q1
                have k2 := (bel5.cell (p := ⟨b, off + j * 3 + 2, none⟩) hb).trans q2
                have k1 := (bel5.cell (p := ⟨g, o + kk, none⟩) hg).trans (hcl _ _ hx)
                have ltg := Nat.lt_of_lt_of_le hg bel5.size
                have CN := Lib.hid (balCol_succ hq.out hx)
                have v1 : cs ≤ 9223372036854775807 := by have := i1.2.2.1; unfold maxLen at this; omega
                have z0 : -9223372036854775808 ≤ x := by omega
                have z1 : x ≤ 9223372036854775807 := by omega
                have j40 : j ≤ 1099511627776 := by omega
                have ba : Below wr.heap.size wr (wr.alloc (.cells #[.slice (some ⟨g, o, none⟩) 3 cs, .slice Bs ms ds, .int .i64 q.key] 48)) := bel_alloc wr _
                have hbl1 := bel_trans hbl ba
                have HI1 := Lib.hid (HI.out.below ba)
                have sz51 := hbl1.size
                have wsz : (wr.alloc (.cells #[.slice (some ⟨g, o, none⟩) 3 cs, .slice Bs ms ds, .int .i64 q.key] 48)).heap.size = wr.heap.size + 1 := by simp
                clear q0 q1 q2 i1 i2 l3 hs hx hcl ba HI
                go_wp2_with (at_builtin; refine app_int_at (wr.alloc (.cells #[.slice (some ⟨g, o, none⟩) 3 cs, .slice Bs ms ds, .int .i64 q.key] 48)) rfl _ _ rfl wo.heap.size A2 j c2 _ rfl HI1.out x z0 z1 (by rw [wsz]; rfl) j40 sz51 ?_; intro A4 c4 w4 p1 p2 p3; have P1 := Lib.hid p1; have bl4 : Below wo.heap.size wo w4 := hbl1.grown p2 sz51 (fun x hx => (HI1.out.block x hx).1); clear p1 p2 p3)
                go_roundw
                case rel => exact ⟨j + 1, A4, c4, by omega, by go_num, rfl, by rw [CN.out]; exact P1.out, bl4⟩
                case measure => simp [intOf]; omega
              · obtain rfl : n = j := by omega
                have II := Lib.hid HI.out.ints
                have KB := Lib.hid (k.below bel5)
                have HO5 := Lib.hid (HO.out.below hbl)
                have SA := Lib.hid (List.all_eq_true.2 SZ.out)
                have JY := Lib.hid (joinSV_yes (joinB_yes (p := sealB) (balCol_len (by rw [hl.out]; exact Nat.le_refl _) kk) h12 SA.out HW.out))
                obtain ⟨r, hr⟩ : ∃ r, joinS (balCol qs kk n) ws = r := ⟨_, rfl⟩
                rw [hr] at CS JY
                have br := foldl_inv (fun o => 0 ≤ o ∧ o < 1000000007) joinSS_bd ((balCol qs kk n).zip ws) 1 (by decide)
                rw [show List.foldl joinSS 1 ((balCol qs kk n).zip ws) = r from hr] at br
                have z0 : -9223372036854775808 ≤ r := by omega
                have z1 : r ≤ 9223372036854775807 := by omega
                have k40 : kk ≤ 1099511627776 := by omega
                clear hr
                go_wp2_with fail
                refine (implJoinSeals_any A2 n c2 (balCol qs kk n) _ _ _ ws _ II.out KB.out).mono ?_
                rintro e w5 ⟨rfl, b5⟩
                rw [JY.out.1, JY.out.2]
                have HO6 := Lib.hid (HO5.out.below b5)
                have bel6 := bel_trans bel5 b5
                have sz6 := bel6.size
                go_wp2_with (at_builtin; refine app_int_at w5 rfl _ _ rfl w.heap.size A1 kk c1 _ rfl HO6.out r z0 z1 rfl k40 sz6 ?_; intro A4 c4 w6 p1 p2 p3; have P1 := Lib.hid p1; have bl6 : Below w.heap.size w w6 := bel6.grown p2 sz6 (fun x hx => (HO6.out.block x hx).1); clear p1 p2 p3)
                go_roundw
                case rel => exact ⟨kk + 1, A4, c4, by omega, by go_num, rfl, by rw [CS.out]; exact P1.out, bl6⟩
                case measure => simp [intOf]; omega
          · obtain rfl : kk = 3 := by omega
            go_wp2_with fail
            go_ret2
            exact ⟨A1, c1, by rw [R.out, V.out, L3.out]; rfl, by rw [V.out, L3.out]; exact HO.out, hbel⟩
  · have R : Hid (castB qs ws = false) := cast_long (by rw [hl.out]; exact h12)
    have V : Hid (cntV qs ws = []) := by show _ = _; unfold cntV; rw [R.out]; rfl
    go_enter Try.func30, Try.ntmps30
    go_wp2_with fail
    go_ret2
    exact ⟨none, 0, by rw [R.out, V.out]; rfl, by rw [V.out]; exact ownI_nil _ _, Below.refl _ _⟩
end Go.Proofs.Ytnjnngnagdhaiaa
