/- The law FnJoined: the product of seals with weights is the seal of the sums. -/
import Derived.Test.YtlehiadlofncfaaGroup
import Derived.Test.YtlehiadlofncfaaSrc
namespace Go.Proofs.Ytlehiadlofncfaa
set_option linter.unusedVariables false
open Go.RowKit

theorem joinKS_emod (K k w : Int) : joinKS K (k, w) = (K + k * w) % 500000003 := rfl
/-- One seal more. -/
theorem seal_step {S K v k w : Nat} : joinSS (sealO S K) (sealO v k, (w : Int)) = sealO ((S + w * v : Nat)) (joinKS K (k, (w : Int))) := by
  have e1 : joinKS (K : Int) ((k : Int), (w : Int)) = (((K + k * w) % 500000003 : Nat) : Int) := by
    rw [joinKS_emod, Int.natCast_emod, Int.natCast_add, Int.natCast_mul]; rfl
  rw [e1, sealO_nat, sealO_nat, sealO_nat, pw_mod order9, pw_add, pw_add]
  unfold joinSS
  simp only [Int.toNat_natCast]
  rw [pw_mul, pw_pow, pw_pow, Nat.mul_comm v w, mm4]
/-- What the loop's lists hold. -/
structure JInv (ss ks ws : List Int) (sum : Int) (i : Nat) : Prop where
  ls : ss.length = i
  lk : ks.length = i
  lw : ws.length = i
  hs : ∀ z ∈ ss, sealB z = true
  hk : ∀ z ∈ ks, ExpP z
  hw : ∀ z ∈ ws, 0 ≤ z ∧ z ≤ 3
  s0 : 0 ≤ sum
  s1 : sum ≤ 6 * (i : Int)
  eq : joinS ss ws = sealO sum (joinK ks ws)
theorem JInv.start : JInv [] [] [] 0 0 := ⟨rfl, rfl, rfl, by simp, by simp, by simp, by omega, by omega, by decide⟩
theorem joinK_bd (ks ws : List Int) : 0 ≤ joinK ks ws ∧ joinK ks ws < 500000003 := foldl_inv (fun o => 0 ≤ o ∧ o < 500000003) joinKS_bd _ _ (by decide)
theorem joinS_bd (ks ws : List Int) : 0 ≤ joinS ks ws ∧ joinS ks ws < 1000000007 := foldl_inv (fun o => 0 ≤ o ∧ o < 1000000007) joinSS_bd _ _ (by decide)
theorem JInv.next {ss ks ws : List Int} {sum : Int} {i : Nat} (h : JInv ss ks ws sum i) {v k w : Int} (hv : 0 ≤ v) (hv' : v ≤ 2) (hk : ExpP k) (hw : 0 ≤ w) (hw' : w ≤ 3) :
    JInv (ss ++ [sealO v k]) (ks ++ [k]) (ws ++ [w]) (sum + w * v) (i + 1) := by
  have m0 : 0 ≤ w * v := Int.mul_nonneg hw hv
  have m1 : w * v ≤ 3 * 2 := Int.mul_le_mul hw' hv' hv (by omega)
  refine ⟨by simp [h.ls], by simp [h.lk], by simp [h.lw], ?_, ?_, ?_, ?_, ?_, ?_⟩
  · intro z hz
    rcases List.mem_append.1 hz with hz | hz
    · exact h.hs z hz
    · simp at hz; subst hz; exact sealO_seal _ _
  · intro z hz
    rcases List.mem_append.1 hz with hz | hz
    · exact h.hk z hz
    · simp at hz; subst hz; exact hk
  · intro z hz
    rcases List.mem_append.1 hz with hz | hz
    · exact h.hw z hz
    · simp at hz; subst hz; exact ⟨hw, hw'⟩
  · have := h.s0; omega
  · have := h.s1; omega
  · have e1 : joinS (ss ++ [sealO v k]) (ws ++ [w]) = joinSS (joinS ss ws) (sealO v k, w) := by
      unfold joinS; rw [List.zip_append (by rw [h.ls, h.lw]), List.foldl_append]; rfl
    have e2 : joinK (ks ++ [k]) (ws ++ [w]) = joinKS (joinK ks ws) (k, w) := by
      unfold joinK; rw [List.zip_append (by rw [h.lk, h.lw]), List.foldl_append]; rfl
    rw [e1, e2, h.eq]
    have b := joinK_bd ks ws
    have s0 := h.s0
    obtain ⟨S, hS⟩ := Int.eq_ofNat_of_zero_le s0
    obtain ⟨K, hK⟩ := Int.eq_ofNat_of_zero_le b.1
    obtain ⟨v, rfl⟩ := Int.eq_ofNat_of_zero_le hv
    obtain ⟨k, rfl⟩ := Int.eq_ofNat_of_zero_le hk.1
    obtain ⟨w, rfl⟩ := Int.eq_ofNat_of_zero_le hw
    rw [hS, hK, seal_step]
    congr 1
theorem JInv.joins {ss ks ws : List Int} {sum : Int} {i : Nat} (h : JInv ss ks ws sum i) (hi : i ≤ 12) : joinB ss ws sealB = true ∧ joinB ks ws expB = true := by
  have hw : allB ws (i : Int) weightB = true := allB_true.2 ⟨by rw [h.lw], fun z hz => inR_true.2 (by have := h.hw z hz; omega)⟩
  refine ⟨joinB_yes h.ls hi (List.all_eq_true.2 h.hs) hw, joinB_yes h.lk hi (List.all_eq_true.2 fun z hz => inR_true.2 (by have := h.hk z hz; exact ⟨this.1, this.2⟩)) hw⟩
theorem implSealOf_in (v k s : Int) (w : World) (hv : expB v = true) (hk : expB k = true) (hs : sealO v k = s) :
    Calls Try.prog 18 #[.int .i64 v, .int .i64 k] w fun e w' => e = .returned (.tuple #[.int .i64 s, .bool true]) ∧ w = w' := by
  subst hs
  have := implSealOf_any v k w
  obtain ⟨h1, h2⟩ := sealOf_yes hv hk
  rwa [h1, h2] at this
theorem r8Long_any (A : Option Addr) (n c : Nat) (B : Option Addr) (m d : Nat) (w : World) (hn : n ≤ 9223372036854775807) (hm : m ≤ 9223372036854775807) :
    Calls Try.prog 32 #[.slice A n c, .slice B m d] w fun e w' => e = .returned (.bool (decide ((48 : Int) < n) || decide ((48 : Int) < m))) ∧ w = w' := by
  by_cases h1 : 48 < n
  · go_enter Try.func32, Try.ntmps32
    go_wp2_with fail
    go_ret
    exact ⟨ret_bool (by simp), rfl⟩
  · go_enter Try.func32, Try.ntmps32
    go_wp2_with fail
    go_ret
    exact ⟨ret_bool (by have : ¬ (48 : Int) < n := by omega
                        simp [this]), rfl⟩
theorem r8At_any (A : Option Addr) (n c : Nat) (bs : List Int) (k q : Int) (w : World) (h : Ints .u8 w A n c bs) (k0 : 0 ≤ k) (k1 : k ≤ 9223372036854775807) :
    Calls Try.prog 33 #[.slice A n c, .int .i64 k, .int .i64 q] w fun e w' => ∃ r, e = .returned (.int .i64 r) ∧ Lt1 q r ∧ Below w.heap.size w w' := by
  have hm := h.short
  obtain ⟨j, rfl⟩ := Int.eq_ofNat_of_zero_le k0
  by_cases h1 : q ≤ 1
  · go_enter Try.func33, Try.ntmps33
    go_wp2_with fail
    go_ret
    exact ⟨0, rfl, ⟨by omega, fun h => absurd h (by omega), fun _ => rfl⟩, Below.refl _ _⟩
  · by_cases h2 : j < n
    · obtain ⟨b, off, z, rfl, hb, hcell, z0, z1, hz⟩ := h.at8 h2
      have hx := lt1_mod (x := z) (n := q) (by omega) (by omega)
      go_enter Try.func33, Try.ntmps33
      go_wp2_with fail
      go_ret
      exact ⟨_, rfl, hx, Below.refl _ _⟩
    · go_enter Try.func33, Try.ntmps33
      go_wp2_with fail
      go_ret
      exact ⟨0, rfl, ⟨by omega, fun _ => by omega, fun _ => rfl⟩, Below.refl _ _⟩
set_option maxRecDepth 100000 in
set_option maxHeartbeats 1600000 in
theorem fnJoined_walk (w : World) (A : Option Addr) (n c : Nat) (zs : List Int) (h : Ints .u8 w A n c zs) (B : Option Addr) (m d : Nat) (ys : List Int) (k : Ints .u8 w B m d ys) :
    Calls Try.prog 13 #[.slice A n c, .slice B m d] w fun e w' => e = .returned (.bool true) ∧ Below w.heap.size w w' := by
  have hn := h.short
  have hm := k.short
  by_cases h1 : (decide ((48 : Int) < n) || decide ((48 : Int) < m)) = true
  · have H1 := Lib.hid h1
    clear h1
    go_enter Try.func13, Try.ntmps13
    go_wp2_with fail
    refine (r8Long_any A n c B m d _ hn hm).mono ?_
    rintro e w1 ⟨rfl, rfl⟩
    rw [H1.out]
    go_wp2_with fail
    go_ret
    exact ⟨rfl, Below.refl _ _⟩
  · have H1 : Hid ((decide ((48 : Int) < n) || decide ((48 : Int) < m)) = false) := by show _ = _; simpa using h1
    clear h1
    go_enter Try.func13, Try.ntmps13
    go_wp2_with fail
    refine (r8Long_any A n c B m d _ hn hm).mono ?_
    rintro e w1 ⟨rfl, rfl⟩
    rw [H1.out]
    go_wp2_with fail
    refine (r8At_any A n c zs 0 5 _ h (by omega) (by omega)).mono ?_
    rintro e w1 ⟨r, rfl, hr, b1⟩
    obtain ⟨r0, r1⟩ := hr.lt (by omega)
    obtain ⟨q, rfl⟩ := Int.eq_ofNat_of_zero_le r0
    go_wp2_with fail
    refine (R8Rows_any B m d ys (q + 1) (1 + (q : Int)) (by omega) _ (k.below b1) (by omega)).mono ?_
    rintro e w2 ⟨Ar, cr, vs, zss, rfl, hz3, hM, b2⟩
    have b12 := bel_trans b1 b2
    go_wp2_with fail
    go_loopw [7, 8, 9, 10, 11] (fun s1 s2 s3 s4 s5 wr => ∃ (i : Nat) (S : Option Addr) (cs : Nat) (K : Option Addr) (ck : Nat) (W : Option Addr) (cw : Nat) (ss ks ws : List Int) (sum : Int), i ≤ q + 1 ∧ s1 = .slice S i cs ∧ s2 = .slice K i ck ∧ s3 = .slice W i cw ∧ s4 = .int .i64 sum ∧ s5 = .int .i64 i ∧ JInv ss ks ws sum i ∧
      OwnI wr w2.heap.size S i cs ss ∧ OwnI wr w2.heap.size K i ck ks ∧ OwnI wr w2.heap.size W i cw ws ∧ Apart (.slice S i cs) (.slice K i ck) ∧ Apart (.slice S i cs) (.slice W i cw) ∧ Apart (.slice K i ck) (.slice W i cw) ∧ Below w2.heap.size w2 wr) (fun _ _ _ _ i _ => (q + 1) - (intOf i).toNat)
    case atStart =>
      refine ⟨0, _, _, _, _, _, _, [], [], [], 0, by omega, rfl, rfl, rfl, rfl, rfl, JInv.start, ?_, ?_, ?_, ?_, ?_, ?_, ?_⟩
      · exact ((ownI_lit w2).below (bel_alloc _ _)).below (bel_alloc _ _)
      · have := (ownI_lit (w2.alloc (.cells #[] 2))).below (bel_alloc _ (.cells #[] 2))
        simpa using this.mono (show w2.heap.size ≤ _ by simp)
      · have := (ownI_lit ((w2.alloc (.cells #[] 2)).alloc (.cells #[] 2)))
        simpa using this.mono (show w2.heap.size ≤ _ by simp; omega)
      · exact .inr (by simp [Value.ownBlock])
      · exact .inr (by simp [Value.ownBlock]; omega)
      · exact .inr (by simp [Value.ownBlock])
      · exact bel_trans (bel_trans (bel_alloc _ _) (bel_alloc _ _)) (bel_alloc _ _)
    case round =>
      obtain ⟨i, S, cs, K, ck, W, cw, ss, ks, ws, sum, hi, rfl, rfl, rfl, rfl, rfl, hj, oS, oK, oW, aSK, aSW, aKW, hbel⟩ := hrel
      have JV := Lib.hid hj
      have j0 := hj.s0
      have j1 := hj.s1
      have OS := Lib.hid oS
      have OK := Lib.hid oK
      have OW := Lib.hid oW
      clear hj oS oK oW
      by_cases hlt : i < q + 1
      · go_wp2_with fail
        refine (r8At_any A n c zs ((i : Int) + 1) 3 _ ((h.below b12).below hbel) (by omega) (by omega)).mono ?_
        rintro e w3 ⟨v, rfl, hv, b3⟩
        obtain ⟨v0, v1⟩ := hv.lt (by omega)
        go_wp2_with fail
        refine (r8At_any B m d ys (i : Int) 4 _ (((k.below b12).below hbel).below b3) (by omega) (by omega)).mono ?_
        rintro e w4 ⟨u, rfl, hu, b4⟩
        obtain ⟨u0, u1⟩ := hu.lt (by omega)
        have b34 := bel_trans b3 b4
        have b45 := hbel.trans (b34.mono hbel.size)
        obtain ⟨g, A', c', zi, hAr, hg1, hg2, hzi, hci, hoi, _⟩ := hM.at (j := i) (by omega)
        obtain ⟨h3, hx3⟩ := hz3 zi (mem_of_at hzi.out)
        rw [h3] at hci hoi
        obtain ⟨b, off, x, hA', hb', hcx, x0, x1, hx⟩ := hoi.ints.at (j := 0) (by omega)
        subst hAr hA'
        have hcx2 : w2.cell? ⟨b, off, none⟩ = some (.int .i64 x) := by simpa using hcx
        have HCI := Lib.hid hci
        have HCX := Lib.hid hcx2
        have ci4 := (b45.cell (p := ⟨g, i, none⟩) hg2).trans hci
        have cx4 := (b45.cell (p := ⟨b, off, none⟩) hb').trans hcx2
        clear hci hcx hcx2
        have ex := hx3 x (mem_of_at hx.out)
        have e1 := ex.1
        have e2 := ex.2
        have EX := Lib.hid ex
        have X1 : Hid (expB v = true) := inR_true.2 ⟨by omega, by omega⟩
        have X2 : Hid (expB x = true) := inR_true.2 ⟨e1, e2⟩
        have X3 : Hid (expB (v + 1) = true) := inR_true.2 ⟨by omega, by omega⟩
        have HNE : (sealO v x == sealO (v + 1) x) = false := by
          obtain ⟨v, rfl⟩ := Int.eq_ofNat_of_zero_le v0
          obtain ⟨x, rfl⟩ := Int.eq_ofNat_of_zero_le e1
          have := sealO_next v x
          simpa using this
        have HSB := Lib.hid (sealO_seal v x)
        have q0 := sealO_lo v x
        have q1 := sealO_hi v x
        have JN := Lib.hid (JV.out.next v0 (by omega) EX.out u0 (by omega))
        have m0 : 0 ≤ u * v := Int.mul_nonneg u0 v0
        have m1 : u * v ≤ 3 * 2 := Int.mul_le_mul (by omega) (by omega) v0 (by omega)
        obtain ⟨sa, hsa⟩ : ∃ sa, sealO v x = sa := ⟨_, rfl⟩
        obtain ⟨sb, hsb⟩ : ∃ sb, sealO (v + 1) x = sb := ⟨_, rfl⟩
        rw [hsa] at HNE HSB q0 q1 JN
        rw [hsb] at HNE
        have HA := Lib.hid hsa
        have HB := Lib.hid hsb
        clear hx3 ex hoi h3 hsa hsb
        go_wp2_with fail
        refine (implSealOf_in v x sa _ X1.out X2.out HA.out).mono ?_
        rintro e w5 ⟨rfl, rfl⟩
        go_wp2_with fail
        refine (implSealOf_in (v + 1) x sb _ X3.out X2.out HB.out).mono ?_
        rintro e w5 ⟨rfl, rfl⟩
        go_wp2_with fail
        refine (implIsSeal_any _ _).mono ?_
        rintro e w5 ⟨rfl, rfl⟩
        rw [HSB.out]
        have OS4 := Lib.hid (OS.out.below b34)
        have OK4 := Lib.hid (OK.out.below b34)
        have OW4 := Lib.hid (OW.out.below b34)
        have hsz := b45.size
        have hi2 : i ≤ 1099511627776 := by omega
        have sa1 : -9223372036854775808 ≤ sa := by omega
        have sa2 : sa ≤ 9223372036854775807 := by omega
        have u2 : -9223372036854775808 ≤ u := by omega
        have u3 : u ≤ 9223372036854775807 := by omega
        have tok1 : True := trivial
        have tok2 : True := trivial
        have tok3 : True := trivial
        go_wp2_with (first
          | (at_builtin; have _t := tok1; refine app_int_at w4 rfl _ _ rfl w2.heap.size S i cs ss rfl OS4.out sa sa1 sa2 rfl hi2 hsz ?_; intro S' cs' w5 p1 p2 p3; have OS5 := Lib.hid p1; have OK5 := Lib.hid (OK4.out.kept_apart aSK.symm p2); have OW5 := Lib.hid (OW4.out.kept_apart aSW.symm p2); have aSK5 := apart_step aSK p3 (fun g hg => (OK4.out.block g hg).2); have aSW5 := apart_step aSW p3 (fun g hg => (OW4.out.block g hg).2); have b5 := bel_app b45 OS4.out.1 p2 hsz; have hsz5 := b5.size; have ci5 := (b5.cell (p := ⟨g, i, none⟩) hg2).trans HCI.out; have cx5 := (b5.cell (p := ⟨b, off, none⟩) hb').trans HCX.out; clear p1 p2 p3 tok1)
          | (at_builtin; have _t := tok2; refine app_int_at w5 rfl _ _ rfl w2.heap.size K i ck ks rfl OK5.out x x0 x1 rfl hi2 hsz5 ?_; intro K' ck' w6 p1 p2 p3; have OK6 := Lib.hid p1; have OS6 := Lib.hid (OS5.out.kept_apart aSK5 p2); have OW6 := Lib.hid (OW5.out.kept_apart aKW.symm p2); have aSK6 := (apart_step aSK5.symm p3 (fun g hg => (OS5.out.block g hg).2)).symm; have aKW6 := apart_step aKW p3 (fun g hg => (OW5.out.block g hg).2); have b6 := bel_app b5 OK5.out.1 p2 hsz5; have hsz6 := b6.size; clear p1 p2 p3 tok2)
          | (at_builtin; have _t := tok3; refine app_int_at w6 rfl _ _ rfl w2.heap.size W i cw ws rfl OW6.out u u2 u3 rfl hi2 hsz6 ?_; intro W' cw' w7 p1 p2 p3; have OW7 := Lib.hid p1; have OS7 := Lib.hid (OS6.out.kept_apart aSW5 p2); have OK7 := Lib.hid (OK6.out.kept_apart aKW6 p2); have aSW7 := (apart_step aSW5.symm p3 (fun g hg => (OS6.out.block g hg).2)).symm; have aKW7 := (apart_step aKW6.symm p3 (fun g hg => (OK6.out.block g hg).2)).symm; have b7 := bel_app b6 OW6.out.1 p2 hsz6; clear p1 p2 p3 tok3))
        go_roundw
        case rel => exact ⟨i + 1, S', cs', K', ck', W', cw', _, _, _, _, by omega, rfl, rfl, rfl, rfl, by go_num, JN.out, OS7.out, OK7.out, OW7.out, aSK6, aSW7, aKW7, b7⟩
        case measure => simp [intOf]; omega
      · obtain rfl : i = q + 1 := by omega
        have JJ := JV.out.joins (by omega)
        obtain ⟨sj, hsj⟩ : ∃ sj, joinS ss ws = sj := ⟨_, rfl⟩
        obtain ⟨kj, hkj⟩ : ∃ kj, joinK ks ws = kj := ⟨_, rfl⟩
        have bs := joinS_bd ss ws
        have bk := joinK_bd ks ws
        have E1 := Lib.hid ((joinSV_yes JJ.1).2.trans hsj)
        have E2 := Lib.hid JJ.1
        have E3 := Lib.hid ((joinKV_yes JJ.2).2.trans hkj)
        have E4 := Lib.hid JJ.2
        have E5 : Hid (sealO sum kj = sj) := by rw [← hsj, ← hkj]; exact JV.out.eq.symm
        rw [hsj] at bs
        rw [hkj] at bk
        have X1 : Hid (expB sum = true) := inR_true.2 ⟨by omega, by omega⟩
        have X2 : Hid (expB kj = true) := inR_true.2 ⟨bk.1, by omega⟩
        have hbe : (sj == sj) = true := by simp
        clear hsj hkj JJ
        go_wp2_with fail
        refine (implJoinSeals_any S (q + 1) cs ss W (q + 1) cw ws _ OS.out.ints OW.out.ints).mono ?_
        rintro e w3 ⟨rfl, b3⟩
        rw [E1.out, E2.out]
        have b23 := hbel.trans (b3.mono hbel.size)
        go_wp2_with fail
        refine (implJoinKeys_any K (q + 1) ck ks W (q + 1) cw ws _ (OK.out.ints.below b3) (OW.out.ints.below b3)).mono ?_
        rintro e w4 ⟨rfl, b4⟩
        rw [E3.out, E4.out]
        have b24 := b23.trans (b4.mono b23.size)
        go_wp2_with fail
        refine (implSealOf_in sum kj sj _ X1.out X2.out E5.out).mono ?_
        rintro e w5 ⟨rfl, rfl⟩
        go_wp2_with fail
        go_ret
        exact ⟨rfl, bel_trans b12 b24⟩
end Go.Proofs.Ytlehiadlofncfaa
