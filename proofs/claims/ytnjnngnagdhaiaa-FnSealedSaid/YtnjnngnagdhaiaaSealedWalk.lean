/- The law FnSealed, walked. -/
import Derived.Test.YtnjnngnagdhaiaaSealedMem
namespace Go.Proofs.Ytnjnngnagdhaiaa
set_option linter.unusedVariables false
set_option linter.unusedSimpArgs false
set_option maxRecDepth 100000
open Go.RowKit
theorem slB_mk {v : Int} {ks : List Int} {nss : List (List Int)} (hv : voteB v = true) (hk : ks.length = 3 ∧ ∀ z ∈ ks, ExpP z) (hl : nss.length = 3) (hn : ∀ l ∈ nss, l.length = 3 ∧ ∀ z ∈ l, ExpP z) : slB v ks nss = true := by
  have ex : ∀ {z : Int}, ExpP z → expB z = true := fun h => inR_true.2 h
  have e1 : allB ks 3 expB = true := allB_true.2 ⟨by rw [hk.1]; rfl, fun z hz => ex (hk.2 z hz)⟩
  have e2 : (nss.all fun l => allB l 3 expB) = true := List.all_eq_true.2 fun l hl' => allB_true.2 ⟨by rw [(hn l hl').1]; rfl, fun z hz => ex ((hn l hl').2 z hz)⟩
  unfold slB
  rw [show inR v 0 2 = true from hv, e1, e2, hl]
  rfl
theorem sum_take_bd {l : List Int} {M : Int} (h : ∀ z ∈ l, 0 ≤ z ∧ z ≤ M) (hl : M * l.length ≤ 1000) : ∀ k, -4611686018427387904 ≤ (l.take k).sum ∧ (l.take k).sum ≤ 4611686018427387904 := by
  have key : ∀ (l : List Int), (∀ z ∈ l, 0 ≤ z ∧ z ≤ M) → 0 ≤ l.sum ∧ l.sum ≤ M * l.length := by
    intro l
    induction l with
    | nil => intro _; simp
    | cons y t ih =>
      intro h
      have h1 := h y (List.mem_cons_self ..)
      have h2 := ih fun z hz => h z (List.mem_cons_of_mem _ hz)
      rw [List.sum_cons, List.length_cons, Int.natCast_add, Int.mul_add]
      omega
  intro k
  have h1 := key (l.take k) fun z hz => h z (List.mem_of_mem_take hz)
  have h2 := key (l.drop k) fun z hz => h z (List.mem_of_mem_drop hz)
  have h3 : (l.take k).sum + (l.drop k).sum = l.sum := by rw [← List.sum_append, List.take_append_drop]
  have h4 := key l h
  omega
/-- SealBallot of what passes. -/
theorem sealBallot_in {v : Int} (hv : voteB v = true) (A : Option Addr) (c : Nat) (ks : List Int) (C : Option Addr) (f : Nat) (nss : List (List Int)) (w : World) (hk : Ints .i64 w A 3 c ks) (hn : Rws w C 3 f nss) (hb : slB v ks nss = true) :
    Calls Try.prog 27 #[.int .i64 v, .slice A 3 c, .slice C 3 f] w (GivesS3 (slS v ks 3) (slP v ks nss 3) (slK ks 3) true w) := by
  have bv := voteB_true hv
  have := sealBallot_any v (by omega) (by omega) A 3 c ks C 3 f nss w hk hn
  rw [hb, show slV v ks nss = (slS v ks 3, slP v ks nss 3, slK ks 3) by simp [slV, hb]] at this
  exact this
/-- The keys' lists when k of them have grown. -/
def ext (P0 P1 P2 ks : List Int) (k : Nat) : List (List Int) := (List.range 3).map fun j => if j < k then [P0, P1, P2].getD j [] ++ [ks.getD j 0] else [P0, P1, P2].getD j []
theorem ext_zero (P0 P1 P2 ks : List Int) : ext P0 P1 P2 ks 0 = [P0, P1, P2] := rfl
theorem ext_at {P0 P1 P2 ks : List Int} {k : Nat} (hk : k < 3) : (ext P0 P1 P2 ks k)[k]? = some ([P0, P1, P2].getD k []) := by simp [ext, hk]
theorem ext_succ {P0 P1 P2 ks : List Int} {k : Nat} (hk : k < 3) {x : Int} (hx : ks[k]? = some x) : (ext P0 P1 P2 ks k).set k ([P0, P1, P2].getD k [] ++ [x]) = ext P0 P1 P2 ks (k + 1) := by
  have e : ks.getD k 0 = x := getD_at hx
  match k, hk with
  | 0, _ => simp [ext, ← e, List.range_succ]
  | 1, _ => simp [ext, ← e, List.range_succ]
  | 2, _ => simp [ext, ← e, List.range_succ]
set_option maxHeartbeats 4000000 in
theorem fnSealed_walk (w : World) (A : Option Addr) (n c : Nat) (zs : List Int) (h : Ints .u8 w A n c zs) (B : Option Addr) (m d : Nat) (ys : List Int) (k : Ints .u8 w B m d ys) :
    Calls Try.prog 6 #[.slice A n c, .slice B m d] w fun e w' => e = .returned (.bool true) ∧ Below w.heap.size w w' := by
  have hn := h.short
  have hm := k.short
  by_cases h1 : (decide ((48 : Int) < n) || decide ((48 : Int) < m)) = true
  · have H1 := Lib.hid h1
    clear h1
    go_enter Try.func6, Try.ntmps6
    go_wp2_with fail
    refine (r8Long_any A n c B m d _ hn hm).mono ?_
    rintro e w1 ⟨rfl, rfl⟩
    rw [H1.out]
    go_wp2_with fail
    go_ret
    exact ⟨rfl, Below.refl _ _⟩
  · have H1 : Hid ((decide ((48 : Int) < n) || decide ((48 : Int) < m)) = false) := by show _ = _; simpa using h1
    clear h1
    go_enter Try.func6, Try.ntmps6
    go_wp2_with fail
    refine (r8Long_any A n c B m d _ hn hm).mono ?_
    rintro e w1 ⟨rfl, rfl⟩
    rw [H1.out]
    go_wp2_with fail
    refine (r8At_any A n c zs 0 3 _ h (by omega) (by omega)).mono ?_
    rintro e w1 ⟨q, rfl, hq, b1⟩
    obtain ⟨q0, q1⟩ := hq.lt (by omega)
    obtain ⟨q, rfl⟩ := Int.eq_ofNat_of_zero_le q0
    clear q0 hq
    go_wp2_with fail
    refine (R8Rows_any B m d ys (4 * q + 4) (4 * (q : Int) + 4) (by omega) _ (k.below b1) (by omega)).mono ?_
    rintro e w2 ⟨R, cR, rv, rss, rfl, hrs, oR, b2⟩
    have RW := Lib.hid oR.rws
    have b12 := bel_trans b1 b2
    obtain ⟨N, hN⟩ : ∃ N, w2.heap.size = N := ⟨_, rfl⟩
    have S0 := Lib.hid (SS.start w2 hN)
    have HR := Lib.hid hrs
    clear oR hrs
    go_wp2_with fail
    obtain ⟨G, hG⟩ : ∃ G, N + 1 + 1 + 1 + 1 + 1 + 1 = G := ⟨_, rfl⟩
    rw [show N + 6 = G from hG] at S0
    rw [hG]
    have hlN : w2.heap.size ≤ N := by omega
    go_loopw [7, 8, 9, 11] (fun bq bv bw t wr => ∃ (i : Nat) (Q : Option Addr) (dq : Nat) (bs : List Mb) (V W P0 P1 P2 : List Int) (Av : Option Addr) (cv : Nat) (Aw : Option Addr) (cw : Nat) (pv : List Value), i ≤ q ∧ t = .int .i64 i ∧ bq = .slice Q i dq ∧ bv = .slice Av i cv ∧ bw = .slice Aw i cw ∧ SS N w2 wr Q i dq bs (.slice Av i cv :: .slice Aw i cw :: pv) [V, W, P0, P1, P2] G pv ∧ SInv (bs.map Mb.bal) V W P0 P1 P2 i) (fun _ _ _ t _ => q - (intOf t).toNat)
    case atStart => exact ⟨0, _, _, [], [], [], [], [], [], _, _, _, _, _, Nat.zero_le _, rfl, rfl, rfl, rfl, S0.out, SInv.start⟩
    case round =>
      obtain ⟨i, Q, dq, bs, V, W, P0, P1, P2, Av, cv, Aw, cw, pv, hi, rfl, rfl, rfl, rfl, hSS, hSI⟩ := hrel
      have S2 := Lib.hid hSS
      have SI := Lib.hid hSI
      clear hSS hSI S0
      by_cases hlt : i < q
      · have hdq : decide ((i : Int) < (q : Int)) = true := by simp; omega
        rcases (show i = 0 ∨ i = 1 by omega) with rfl | rfl
        · skip
          obtain ⟨bR, oR, K, mk, ck, ks, rfl, hbR, ckk, ikk, hks⟩ := RW.out.at (j := 0) (by omega)
          have hksm := HR.out ks (mem_of_at hks.out)
          obtain rfl : mk = 3 := by rw [← ikk.1, hksm.1]
          obtain ⟨bK, oK, rfl, hbK, hcK⟩ := ikk.2.2.2.2 (by omega)
          obtain ⟨ka, kb, kc, rfl⟩ := list3 hksm.1
          have IKK := Lib.hid ikk
          have SUB := Lib.hid (RW.out.sub 1 3 (by omega))
          have lss := RW.out.1
          have NSS : Hid (((rss.drop 1).take 3).length = 3 ∧ ∀ l ∈ (rss.drop 1).take 3, l.length = 3 ∧ ∀ z ∈ l, ExpP z) := ⟨by simp; omega, fun l hl => HR.out l (List.mem_of_mem_drop (List.mem_of_mem_take hl))⟩
          obtain ⟨nss, hnss⟩ : ∃ r, (rss.drop 1).take 3 = r := ⟨_, rfl⟩
          rw [hnss] at SUB NSS
          have CKK := Lib.hid (fun (X : World) (hX : Below w2.heap.size w2 X) => (show X.cell? ⟨bR, oR, none⟩ = some (.slice (some ⟨bK, oK, none⟩) 3 ck) from (hX.cell (p := ⟨bR, oR + 0, none⟩) hbR).trans ckk))
          have KEX := Lib.hid hksm
          clear ikk ckk hksm hnss
          go_wp2_with fail
          refine (r8At_any A n c zs 1 3 _ ((h.below b12).below S2.out.bel) (by omega) (by omega)).mono ?_
          rintro e w3 ⟨v, rfl, hv, b3⟩
          obtain ⟨v0, v1⟩ := hv.lt (by omega)
          have HVB : Hid (voteB v = true) := inR_true.2 ⟨v0, by omega⟩
          have S3 := Lib.hid (S2.out.below b3)
          have SLB := Lib.hid (slB_mk HVB.out ⟨rfl, KEX.out.2⟩ NSS.out.1 NSS.out.2)
          have ck3 := CKK.out _ S3.out.bel
          have SBC := Lib.hid (sealBallot_in HVB.out (some ⟨bK, oK, none⟩) ck [ka, kb, kc] (some ⟨bR, oR + 1, none⟩) (cR - 1) nss w3 (IKK.out.below S3.out.bel) (SUB.out.below S3.out.bel) SLB.out)
          have hcap : (4 : Int) ≤ (cR : Int) := by have := RW.out.2.1; omega
          clear hv
          go_wp2_with fail
          refine SBC.out.mono ?_
          rintro e w4 ⟨A4, c4, B4, d4, hv4, rfl, p4, b4⟩
          obtain ⟨ss, hss⟩ : ∃ r, slS v [ka, kb, kc] 3 = r := ⟨_, rfl⟩
          obtain ⟨ps, hps⟩ : ∃ r, slP v [ka, kb, kc] nss 3 = r := ⟨_, rfl⟩
          obtain ⟨key, hkey⟩ : ∃ r, slK [ka, kb, kc] 3 = r := ⟨_, rfl⟩
          rw [hss, hps] at p4
          rw [hss, hps, hkey]
          have BAL : Hid (balB ss ps key = true) := by show _ = _; rw [← hss, ← hps, ← hkey]; exact sealed_bal SLB.out
          have EQB : Hid ((⟨slS v [ka, kb, kc] 3, slP v [ka, kb, kc] nss 3, slK [ka, kb, kc] 3⟩ : Bal) = ⟨ss, ps, key⟩) := by show _ = _; rw [hss, hps, hkey]
          clear hss hps hkey
          have ba := bel_alloc w4 (.cells #[.slice A4 ss.length c4, .slice B4 ps.length d4, .int .i64 key] 48)
          have S4 := Lib.hid ((S3.out.below b4).below ba)
          have B4R := Lib.hid ((BR.mk' p4).below ba)
          have CB := Cs.new w4 [.slice A4 ss.length c4, .slice B4 ps.length d4, .int .i64 key] 48
          have OFF := Lib.hid (fun x hx g hg => (show g < w3.heap.size ∨ w4.heap.size ≤ g from .inl (S3.out.tops x hx g hg)))
          have IBC := Lib.hid (implIsBallot_any A4 ss.length c4 ss B4 ps.length d4 ps key _ B4R.out.pb.own.ints B4R.out.pb.bps)
          have q0a := CB.cell 0 rfl
          have q1a := CB.cell 1 rfl
          have q2a := CB.cell 2 rfl
          have lta := CB.1
          have hB0 := Lib.hid ba.size
          clear p4 ba
          go_wp2_with fail
          refine IBC.out.mono ?_
          rintro e w5 ⟨rfl, b5⟩
          rw [BAL.out]
          have S5 := Lib.hid (S4.out.below b5)
          have B5R := Lib.hid (B4R.out.below b5)
          have D5 := CB.below b5
          clear q0a q1a q2a lta CB
          have q0a := D5.cell 0 rfl
          have q1a := D5.cell 1 rfl
          have q2a := D5.cell 2 rfl
          have lta := D5.1
          have h45 : w4.heap.size ≤ w5.heap.size := Nat.le_trans hB0.out b5.size
          go_wp2_with (at_builtin; first | (refine app_bal_at w5 rfl _ _ rfl N Q 0 dq (bs.flatMap Mb.vals) rfl S5.out.out (.slice A4 ss.length c4) (.slice B4 ps.length d4) (.int .i64 key) rfl rfl rfl rfl (by omega) S5.out.lowB ?_; intro Q6 d6 w6 g1 g2; have b6 := bel_alloc w5 (.cells #[.slice A4 ss.length c4, .slice B4 ps.length d4, .int .i64 key] 48); have S6 := Lib.hid ((S5.out.below b6).ballot (b := ⟨w3.heap.size, w4.heap.size, A4, c4, ss, B4, d4, hv4, ps, key⟩) (BR.below B5R.out b6) (Nat.le_trans h45 b6.size) OFF.out g1 g2); have O6 := Lib.hid (S6.out.own (j := 0) rfl rfl).2; clear g1 g2 b6) | (refine app_int_at w6 rfl _ _ rfl N Av 0 cv V rfl O6.out v (by omega) (by omega) rfl (by omega) S6.out.lowB ?_; intro A7 c7 w7 g1 g2 g3; have S7 := Lib.hid (S6.out.push' (j := 0) rfl rfl g1 g2 g3); clear g1 g2 g3))
          refine (r8At_any B m d ys 0 6 _ ((k.below b12).below S7.out.bel) (by omega) (by omega)).mono ?_
          rintro e w8 ⟨x, rfl, hx, b8⟩
          obtain ⟨x0, x1⟩ := hx.lt (by omega)
          have S8 := Lib.hid (S7.out.below b8)
          have O8 := Lib.hid (S8.out.own (j := 1) rfl rfl).2
          clear hx q0a q1a q2a lta D5
          go_wp2_with (at_builtin; refine app_int_at w8 rfl _ _ rfl N Aw 0 cw W rfl O8.out x (by omega) (by omega) rfl (by omega) S8.out.lowB ?_; intro A9 c9 w9 g1 g2 g3; have S9 := Lib.hid (S8.out.push' (j := 1) rfl rfl g1 g2 g3); clear g1 g2 g3)
          obtain ⟨BS, hBS⟩ : ∃ r, bs ++ [⟨w3.heap.size, w4.heap.size, A4, c4, ss, B4, d4, hv4, ps, key⟩] = r := ⟨_, rfl⟩
          rw [hBS] at S9
          have NXT : Hid (SInv (BS.map Mb.bal) (V ++ [v]) (W ++ [x]) (P0 ++ [ka]) (P1 ++ [kb]) (P2 ++ [kc]) (0 + 1)) := by
            show SInv _ _ _ _ _ _ _
            rw [← hBS, List.map_append]
            have e := SI.out.next (w := x) SLB.out x0 (by omega)
            rw [EQB.out] at e
            exact e
          clear hBS S2 S3 S4 S5 S6 S7 S8 O6 O8 B4R B5R OFF IBC SBC BAL EQB ck3 hB0 h45
          go_loopw [16] (fun t wr => ∃ (kk : Nat) (pv' : List Value), kk ≤ 3 ∧ t = .int .i64 kk ∧ SS N w2 wr Q6 (0 + 1) d6 BS (.slice A7 (0 + 1) c7 :: .slice A9 (0 + 1) c9 :: pv') ((V ++ [v]) :: (W ++ [x]) :: ext P0 P1 P2 [ka, kb, kc] kk) G pv') (fun t _ => 3 - (intOf t).toNat)
          case atStart => exact ⟨0, pv, by omega, rfl, S9.out⟩
          case round =>
            obtain ⟨kk, pv', hk3, rfl, hS⟩ := hrel
            have T := Lib.hid hS
            clear hS S9
            by_cases hkl : kk < 3
            · have hd3 : decide ((kk : Int) < 3) = true := by simp; omega
              have ji3 : (kk : Int) < 3 := by omega
              have ji0 : (0 : Int) ≤ (kk : Int) := by omega
              have hrow := ext_at (P0 := P0) (P1 := P1) (P2 := P2) (ks := [ka, kb, kc]) hkl
              have hPL : ([P0, P1, P2].getD kk []).length = 0 := by
                match kk, hkl with
                | 0, _ => exact SI.out.lp.1
                | 1, _ => exact SI.out.lp.2.1
                | 2, _ => exact SI.out.lp.2.2
              obtain ⟨xk, hxk⟩ : ∃ r, [ka, kb, kc][kk]? = some r := ⟨_, List.getElem?_eq_getElem (by simpa using hkl)⟩
              have bxk := KEX.out.2 xk (mem_of_at hxk)
              have hes := ext_succ (P0 := P0) (P1 := P1) (P2 := P2) hkl hxk
              obtain ⟨PK, hPK⟩ : ∃ r, [P0, P1, P2].getD kk [] = r := ⟨_, rfl⟩
              rw [hPK] at hrow hPL hes
              have hrow2 : ((V ++ [v]) :: (W ++ [x]) :: ext P0 P1 P2 [ka, kb, kc] kk)[kk + 2]? = some PK := hrow
              obtain ⟨Ak, ck', e1, ok⟩ := T.out.row (kk + 2) PK hrow2
              rw [hPL] at e1 ok
              have e2 : pv'[kk]? = some (.slice Ak 0 ck') := e1
              obtain ⟨cG, fG⟩ := T.out.cell e2
              have cX := (T.out.bel.cell (p := ⟨bK, oK + kk, none⟩) hbK).trans (hcK kk xk hxk)
              have bal := bel_alloc wr (.cells #[.int .i64 xk] 2)
              have TA := Lib.hid (T.out.below bal)
              have OK := Lib.hid (ok.below bal)
              have HCN := Lib.hid ((Cs.new wr [.int .i64 xk] 2).cell 0 rfl)
              have cXA := (TA.out.bel.cell (p := ⟨bK, oK + kk, none⟩) hbK).trans (hcK kk xk hxk)
              have cGA := (TA.out.cell e2).1
              have z0 : -9223372036854775808 ≤ xk := by have := bxk.1; omega
              have z1 : xk ≤ 9223372036854775807 := by have := bxk.2; omega
              have E1 := Lib.hid e1
              have R2 := Lib.hid hrow2
              have HES := Lib.hid hes
              have CK2 := Lib.hid (hcK kk xk hxk)
              clear hrow hrow2 e1 e2 ok bal hes hxk hPK hPL bxk
              go_wp2_with fail
              refine wp_region_noPanic ?_
              refine wp_region_R (inFirst (fun w' => w'.cell? ⟨G, kk, none⟩ = some (.slice Ak 0 ck') ∧ w'.cell? ⟨bK, oK + kk, none⟩ = some (.int .i64 xk)) 12) (by kernel_rfl) ?_
              have hS0 : (wr.drew.cell? ⟨G, kk, none⟩ = some (.slice Ak 0 ck') ∧ wr.drew.cell? ⟨bK, oK + kk, none⟩ = some (.int .i64 xk)) := ⟨cG, cX⟩
              refine anyR_take (i := 0) (.slice (some ⟨G, 0, none⟩) 3 3) rfl (by kernel_rfl) (by kernel_rfl) (by kernel_rfl) (by kernel_rfl) (fun _ _ _ h => h) (by assumption) ⟨by rfl, ?_⟩ ?_
              · intro W hW
                go_simp
              try simp only [Act.put, List.setIfInBounds_toArray, List.set_cons_zero, List.set_cons_succ]
              refine anyR_take (i := 1) (.int .i64 kk) rfl (by kernel_rfl) (by kernel_rfl) (by kernel_rfl) (by kernel_rfl) (fun _ _ _ h => h) (by assumption) ⟨by rfl, ?_⟩ ?_
              · intro W hW
                go_simp
              try simp only [Act.put, List.setIfInBounds_toArray, List.set_cons_zero, List.set_cons_succ]
              refine anyR_take (i := 2) (.slice (some ⟨G, 0, none⟩) 3 3) rfl (by kernel_rfl) (by kernel_rfl) (by kernel_rfl) (by kernel_rfl) (fun _ _ _ h => h) (by assumption) ⟨by rfl, ?_⟩ ?_
              · intro W hW
                go_simp
              try simp only [Act.put, List.setIfInBounds_toArray, List.set_cons_zero, List.set_cons_succ]
              refine anyR_take (i := 3) (.int .i64 kk) rfl (by kernel_rfl) (by kernel_rfl) (by kernel_rfl) (by kernel_rfl) (fun _ _ _ h => h) (by assumption) ⟨by rfl, ?_⟩ ?_
              · intro W hW
                go_simp
              try simp only [Act.put, List.setIfInBounds_toArray, List.set_cons_zero, List.set_cons_succ]
              refine anyR_take (i := 4) (.pointer (some ⟨G, kk, none⟩)) rfl (by kernel_rfl) (by kernel_rfl) (by kernel_rfl) (by kernel_rfl) (fun _ _ _ h => h) (by assumption) ⟨by rfl, ?_⟩ ?_
              · intro W hW
                go_simp
              try simp only [Act.put, List.setIfInBounds_toArray, List.set_cons_zero, List.set_cons_succ]
              refine anyR_take (i := 6) (.slice (some ⟨bK, oK, none⟩) 3 ck) rfl (by kernel_rfl) (by kernel_rfl) (by kernel_rfl) (by kernel_rfl) (fun _ _ _ h => h) (by assumption) ⟨by rfl, ?_⟩ ?_
              · intro W hW
                go_simp
              try simp only [Act.put, List.setIfInBounds_toArray, List.set_cons_zero, List.set_cons_succ]
              refine anyR_take (i := 7) (.int .i64 kk) rfl (by kernel_rfl) (by kernel_rfl) (by kernel_rfl) (by kernel_rfl) (fun _ _ _ h => h) (by assumption) ⟨by rfl, ?_⟩ ?_
              · intro W hW
                go_simp
              try simp only [Act.put, List.setIfInBounds_toArray, List.set_cons_zero, List.set_cons_succ]
              refine anyR_take (i := 8) (.pointer (some ⟨bK, oK + kk, none⟩)) rfl (by kernel_rfl) (by kernel_rfl) (by kernel_rfl) (by kernel_rfl) (fun _ _ _ h => h) (by assumption) ⟨by rfl, ?_⟩ ?_
              · intro W hW
                go_simp
              try simp only [Act.put, List.setIfInBounds_toArray, List.set_cons_zero, List.set_cons_succ]
              refine anyR_take (i := 5) (.slice Ak 0 ck') rfl (by kernel_rfl) (by kernel_rfl) (by kernel_rfl) (by kernel_rfl) (fun _ _ _ h => h) (by assumption) ⟨by rfl, ?_⟩ ?_
              · intro W hW
                go_simp
              try simp only [Act.put, List.setIfInBounds_toArray, List.set_cons_zero, List.set_cons_succ]
              refine anyR_take (i := 9) (.int .i64 xk) rfl (by kernel_rfl) (by kernel_rfl) (by kernel_rfl) (by kernel_rfl) (fun _ _ _ h => h) (by assumption) ⟨by rfl, ?_⟩ ?_
              · intro W hW
                go_simp
              try simp only [Act.put, List.setIfInBounds_toArray, List.set_cons_zero, List.set_cons_succ]
              refine anyR_one (i := 10) (by kernel_rfl) rfl ?_
              intro K hK
              go_simp
              refine hK.out _ _ (fun _ => ⟨cGA, cXA⟩) ?_
              clear hK K
              try simp only [Act.put, List.setIfInBounds_toArray, List.set_cons_zero, List.set_cons_succ]
              refine anyR_one (i := 11) (by kernel_rfl) rfl ?_
              intro K hK
              refine step_app_int _ (by rfl) _ _ (by rfl) N Ak 0 ck' _ (by rfl) OK.out xk z0 z1 wr.heap.size (by rfl) HCN.out (by omega) TA.out.lowB ?_
              intro A' c' w' g1 g2 g3
              have T1 := TA.out.drew.push' (j := kk + 2) R2.out E1.out g1 g2 g3
              have gG : w'.cell? ⟨G, kk, none⟩ = some (.slice Ak 0 ck') ∧ w'.frozen? ⟨G, kk, none⟩ = false := T1.cell (show pv'[kk]? = _ from E1.out)
              obtain ⟨gc, gf⟩ := gG
              have gx := (T1.bel.cell (p := ⟨bK, oK + kk, none⟩) hbK).trans CK2.out
              have T2 := T1.store kk (.slice A' (0 + 1) c')
              have TF : Hid (SS N w2 (w'.setCell ⟨G, kk, none⟩ (.slice A' (0 + 1) c')) Q6 (0 + 1) d6 BS (.slice A7 (0 + 1) c7 :: .slice A9 (0 + 1) c9 :: pv'.set kk (.slice A' (0 + 1) c')) ((V ++ [v]) :: (W ++ [x]) :: ext P0 P1 P2 [ka, kb, kc] (kk + 1)) G (pv'.set kk (.slice A' (0 + 1) c'))) := by
                show SS _ _ _ _ _ _ _ _ _ _ _
                rw [← HES.out]
                exact T2
              clear g1 g2 g3 T1 T2
              refine hK.out _ _ (fun _ => ⟨gc, gx⟩) ?_
              clear hK K
              try simp only [Act.put, List.setIfInBounds_toArray, List.set_cons_zero, List.set_cons_succ]
              refine anyR_one (i := 12) (by kernel_rfl) rfl ?_
              intro K hK
              go_simp
              refine hK.out _ _ (fun h => absurd h (by decide)) ?_
              clear hK K
              try simp only [Act.put, List.setIfInBounds_toArray, List.set_cons_zero, List.set_cons_succ]
              refine anyR_one (i := 13) (by kernel_rfl) rfl ?_
              intro K hK
              go_simp
              refine hK.out _ _ (fun h => absurd h (by decide)) ?_
              clear hK K
              try simp only [Act.put, List.setIfInBounds_toArray, List.set_cons_zero, List.set_cons_succ]
              refine anyR_done (by kernel_rfl) ?_ _
              refine NoPanic.normal ?_
              clear hS0
              go_wp2_with fail
              go_roundw
              case rel => exact ⟨kk + 1, _, by omega, by go_num, TF.out⟩
              case measure => simp [intOf]; omega
            · obtain rfl : kk = 3 := by omega
              go_wp2_with fail
              go_roundw
              case rel => exact ⟨0 + 1, Q6, d6, BS, V ++ [v], W ++ [x], P0 ++ [ka], P1 ++ [kb], P2 ++ [kc], A7, c7, A9, c9, pv', by omega, by go_num, rfl, rfl, rfl, T.out, NXT.out⟩
              case measure => simp [intOf]; omega
        · skip
          obtain ⟨bR, oR, K, mk, ck, ks, rfl, hbR, ckk, ikk, hks⟩ := RW.out.at (j := 4) (by omega)
          have hksm := HR.out ks (mem_of_at hks.out)
          obtain rfl : mk = 3 := by rw [← ikk.1, hksm.1]
          obtain ⟨bK, oK, rfl, hbK, hcK⟩ := ikk.2.2.2.2 (by omega)
          obtain ⟨ka, kb, kc, rfl⟩ := list3 hksm.1
          have IKK := Lib.hid ikk
          have SUB := Lib.hid (RW.out.sub 5 3 (by omega))
          have lss := RW.out.1
          have NSS : Hid (((rss.drop 5).take 3).length = 3 ∧ ∀ l ∈ (rss.drop 5).take 3, l.length = 3 ∧ ∀ z ∈ l, ExpP z) := ⟨by simp; omega, fun l hl => HR.out l (List.mem_of_mem_drop (List.mem_of_mem_take hl))⟩
          obtain ⟨nss, hnss⟩ : ∃ r, (rss.drop 5).take 3 = r := ⟨_, rfl⟩
          rw [hnss] at SUB NSS
          have CKK := Lib.hid (fun (X : World) (hX : Below w2.heap.size w2 X) => (show X.cell? ⟨bR, oR + 4, none⟩ = some (.slice (some ⟨bK, oK, none⟩) 3 ck) from (hX.cell (p := ⟨bR, oR + 4, none⟩) hbR).trans ckk))
          have KEX := Lib.hid hksm
          clear ikk ckk hksm hnss
          go_wp2_with fail
          refine (r8At_any A n c zs 2 3 _ ((h.below b12).below S2.out.bel) (by omega) (by omega)).mono ?_
          rintro e w3 ⟨v, rfl, hv, b3⟩
          obtain ⟨v0, v1⟩ := hv.lt (by omega)
          have HVB : Hid (voteB v = true) := inR_true.2 ⟨v0, by omega⟩
          have S3 := Lib.hid (S2.out.below b3)
          have SLB := Lib.hid (slB_mk HVB.out ⟨rfl, KEX.out.2⟩ NSS.out.1 NSS.out.2)
          have ck3 := CKK.out _ S3.out.bel
          have SBC := Lib.hid (sealBallot_in HVB.out (some ⟨bK, oK, none⟩) ck [ka, kb, kc] (some ⟨bR, oR + 5, none⟩) (cR - 5) nss w3 (IKK.out.below S3.out.bel) (SUB.out.below S3.out.bel) SLB.out)
          have hcap : (8 : Int) ≤ (cR : Int) := by have := RW.out.2.1; omega
          clear hv
          go_wp2_with fail
          refine SBC.out.mono ?_
          rintro e w4 ⟨A4, c4, B4, d4, hv4, rfl, p4, b4⟩
          obtain ⟨ss, hss⟩ : ∃ r, slS v [ka, kb, kc] 3 = r := ⟨_, rfl⟩
          obtain ⟨ps, hps⟩ : ∃ r, slP v [ka, kb, kc] nss 3 = r := ⟨_, rfl⟩
          obtain ⟨key, hkey⟩ : ∃ r, slK [ka, kb, kc] 3 = r := ⟨_, rfl⟩
          rw [hss, hps] at p4
          rw [hss, hps, hkey]
          have BAL : Hid (balB ss ps key = true) := by show _ = _; rw [← hss, ← hps, ← hkey]; exact sealed_bal SLB.out
          have EQB : Hid ((⟨slS v [ka, kb, kc] 3, slP v [ka, kb, kc] nss 3, slK [ka, kb, kc] 3⟩ : Bal) = ⟨ss, ps, key⟩) := by show _ = _; rw [hss, hps, hkey]
          clear hss hps hkey
          have ba := bel_alloc w4 (.cells #[.slice A4 ss.length c4, .slice B4 ps.length d4, .int .i64 key] 48)
          have S4 := Lib.hid ((S3.out.below b4).below ba)
          have B4R := Lib.hid ((BR.mk' p4).below ba)
          have CB := Cs.new w4 [.slice A4 ss.length c4, .slice B4 ps.length d4, .int .i64 key] 48
          have OFF := Lib.hid (fun x hx g hg => (show g < w3.heap.size ∨ w4.heap.size ≤ g from .inl (S3.out.tops x hx g hg)))
          have IBC := Lib.hid (implIsBallot_any A4 ss.length c4 ss B4 ps.length d4 ps key _ B4R.out.pb.own.ints B4R.out.pb.bps)
          have q0a := CB.cell 0 rfl
          have q1a := CB.cell 1 rfl
          have q2a := CB.cell 2 rfl
          have lta := CB.1
          have hB0 := Lib.hid ba.size
          clear p4 ba
          go_wp2_with fail
          refine IBC.out.mono ?_
          rintro e w5 ⟨rfl, b5⟩
          rw [BAL.out]
          have S5 := Lib.hid (S4.out.below b5)
          have B5R := Lib.hid (B4R.out.below b5)
          have D5 := CB.below b5
          clear q0a q1a q2a lta CB
          have q0a := D5.cell 0 rfl
          have q1a := D5.cell 1 rfl
          have q2a := D5.cell 2 rfl
          have lta := D5.1
          have h45 : w4.heap.size ≤ w5.heap.size := Nat.le_trans hB0.out b5.size
          go_wp2_with (at_builtin; first | (refine app_bal_at w5 rfl _ _ rfl N Q 1 dq (bs.flatMap Mb.vals) rfl S5.out.out (.slice A4 ss.length c4) (.slice B4 ps.length d4) (.int .i64 key) rfl rfl rfl rfl (by omega) S5.out.lowB ?_; intro Q6 d6 w6 g1 g2; have b6 := bel_alloc w5 (.cells #[.slice A4 ss.length c4, .slice B4 ps.length d4, .int .i64 key] 48); have S6 := Lib.hid ((S5.out.below b6).ballot (b := ⟨w3.heap.size, w4.heap.size, A4, c4, ss, B4, d4, hv4, ps, key⟩) (BR.below B5R.out b6) (Nat.le_trans h45 b6.size) OFF.out g1 g2); have O6 := Lib.hid (S6.out.own (j := 0) rfl rfl).2; clear g1 g2 b6) | (refine app_int_at w6 rfl _ _ rfl N Av 1 cv V rfl O6.out v (by omega) (by omega) rfl (by omega) S6.out.lowB ?_; intro A7 c7 w7 g1 g2 g3; have S7 := Lib.hid (S6.out.push' (j := 0) rfl rfl g1 g2 g3); clear g1 g2 g3))
          refine (r8At_any B m d ys 1 6 _ ((k.below b12).below S7.out.bel) (by omega) (by omega)).mono ?_
          rintro e w8 ⟨x, rfl, hx, b8⟩
          obtain ⟨x0, x1⟩ := hx.lt (by omega)
          have S8 := Lib.hid (S7.out.below b8)
          have O8 := Lib.hid (S8.out.own (j := 1) rfl rfl).2
          clear hx q0a q1a q2a lta D5
          go_wp2_with (at_builtin; refine app_int_at w8 rfl _ _ rfl N Aw 1 cw W rfl O8.out x (by omega) (by omega) rfl (by omega) S8.out.lowB ?_; intro A9 c9 w9 g1 g2 g3; have S9 := Lib.hid (S8.out.push' (j := 1) rfl rfl g1 g2 g3); clear g1 g2 g3)
          obtain ⟨BS, hBS⟩ : ∃ r, bs ++ [⟨w3.heap.size, w4.heap.size, A4, c4, ss, B4, d4, hv4, ps, key⟩] = r := ⟨_, rfl⟩
          rw [hBS] at S9
          have NXT : Hid (SInv (BS.map Mb.bal) (V ++ [v]) (W ++ [x]) (P0 ++ [ka]) (P1 ++ [kb]) (P2 ++ [kc]) (1 + 1)) := by
            show SInv _ _ _ _ _ _ _
            rw [← hBS, List.map_append]
            have e := SI.out.next (w := x) SLB.out x0 (by omega)
            rw [EQB.out] at e
            exact e
          clear hBS S2 S3 S4 S5 S6 S7 S8 O6 O8 B4R B5R OFF IBC SBC BAL EQB ck3 hB0 h45
          go_loopw [16] (fun t wr => ∃ (kk : Nat) (pv' : List Value), kk ≤ 3 ∧ t = .int .i64 kk ∧ SS N w2 wr Q6 (1 + 1) d6 BS (.slice A7 (1 + 1) c7 :: .slice A9 (1 + 1) c9 :: pv') ((V ++ [v]) :: (W ++ [x]) :: ext P0 P1 P2 [ka, kb, kc] kk) G pv') (fun t _ => 3 - (intOf t).toNat)
          case atStart => exact ⟨0, pv, by omega, rfl, S9.out⟩
          case round =>
            obtain ⟨kk, pv', hk3, rfl, hS⟩ := hrel
            have T := Lib.hid hS
            clear hS S9
            by_cases hkl : kk < 3
            · have hd3 : decide ((kk : Int) < 3) = true := by simp; omega
              have ji3 : (kk : Int) < 3 := by omega
              have ji0 : (0 : Int) ≤ (kk : Int) := by omega
              have hrow := ext_at (P0 := P0) (P1 := P1) (P2 := P2) (ks := [ka, kb, kc]) hkl
              have hPL : ([P0, P1, P2].getD kk []).length = 1 := by
                match kk, hkl with
                | 0, _ => exact SI.out.lp.1
                | 1, _ => exact SI.out.lp.2.1
                | 2, _ => exact SI.out.lp.2.2
              obtain ⟨xk, hxk⟩ : ∃ r, [ka, kb, kc][kk]? = some r := ⟨_, List.getElem?_eq_getElem (by simpa using hkl)⟩
              have bxk := KEX.out.2 xk (mem_of_at hxk)
              have hes := ext_succ (P0 := P0) (P1 := P1) (P2 := P2) hkl hxk
              obtain ⟨PK, hPK⟩ : ∃ r, [P0, P1, P2].getD kk [] = r := ⟨_, rfl⟩
              rw [hPK] at hrow hPL hes
              have hrow2 : ((V ++ [v]) :: (W ++ [x]) :: ext P0 P1 P2 [ka, kb, kc] kk)[kk + 2]? = some PK := hrow
              obtain ⟨Ak, ck', e1, ok⟩ := T.out.row (kk + 2) PK hrow2
              rw [hPL] at e1 ok
              have e2 : pv'[kk]? = some (.slice Ak 1 ck') := e1
              obtain ⟨cG, fG⟩ := T.out.cell e2
              have cX := (T.out.bel.cell (p := ⟨bK, oK + kk, none⟩) hbK).trans (hcK kk xk hxk)
              have bal := bel_alloc wr (.cells #[.int .i64 xk] 2)
              have TA := Lib.hid (T.out.below bal)
              have OK := Lib.hid (ok.below bal)
              have HCN := Lib.hid ((Cs.new wr [.int .i64 xk] 2).cell 0 rfl)
              have cXA := (TA.out.bel.cell (p := ⟨bK, oK + kk, none⟩) hbK).trans (hcK kk xk hxk)
              have cGA := (TA.out.cell e2).1
              have z0 : -9223372036854775808 ≤ xk := by have := bxk.1; omega
              have z1 : xk ≤ 9223372036854775807 := by have := bxk.2; omega
              have E1 := Lib.hid e1
              have R2 := Lib.hid hrow2
              have HES := Lib.hid hes
              have CK2 := Lib.hid (hcK kk xk hxk)
              clear hrow hrow2 e1 e2 ok bal hes hxk hPK hPL bxk
              go_wp2_with fail
              refine wp_region_noPanic ?_
              refine wp_region_R (inFirst (fun w' => w'.cell? ⟨G, kk, none⟩ = some (.slice Ak 1 ck') ∧ w'.cell? ⟨bK, oK + kk, none⟩ = some (.int .i64 xk)) 12) (by kernel_rfl) ?_
              have hS0 : (wr.drew.cell? ⟨G, kk, none⟩ = some (.slice Ak 1 ck') ∧ wr.drew.cell? ⟨bK, oK + kk, none⟩ = some (.int .i64 xk)) := ⟨cG, cX⟩
              refine anyR_take (i := 0) (.slice (some ⟨G, 0, none⟩) 3 3) rfl (by kernel_rfl) (by kernel_rfl) (by kernel_rfl) (by kernel_rfl) (fun _ _ _ h => h) (by assumption) ⟨by rfl, ?_⟩ ?_
              · intro W hW
                go_simp
              try simp only [Act.put, List.setIfInBounds_toArray, List.set_cons_zero, List.set_cons_succ]
              refine anyR_take (i := 1) (.int .i64 kk) rfl (by kernel_rfl) (by kernel_rfl) (by kernel_rfl) (by kernel_rfl) (fun _ _ _ h => h) (by assumption) ⟨by rfl, ?_⟩ ?_
              · intro W hW
                go_simp
              try simp only [Act.put, List.setIfInBounds_toArray, List.set_cons_zero, List.set_cons_succ]
              refine anyR_take (i := 2) (.slice (some ⟨G, 0, none⟩) 3 3) rfl (by kernel_rfl) (by kernel_rfl) (by kernel_rfl) (by kernel_rfl) (fun _ _ _ h => h) (by assumption) ⟨by rfl, ?_⟩ ?_
              · intro W hW
                go_simp
              try simp only [Act.put, List.setIfInBounds_toArray, List.set_cons_zero, List.set_cons_succ]
              refine anyR_take (i := 3) (.int .i64 kk) rfl (by kernel_rfl) (by kernel_rfl) (by kernel_rfl) (by kernel_rfl) (fun _ _ _ h => h) (by assumption) ⟨by rfl, ?_⟩ ?_
              · intro W hW
                go_simp
              try simp only [Act.put, List.setIfInBounds_toArray, List.set_cons_zero, List.set_cons_succ]
              refine anyR_take (i := 4) (.pointer (some ⟨G, kk, none⟩)) rfl (by kernel_rfl) (by kernel_rfl) (by kernel_rfl) (by kernel_rfl) (fun _ _ _ h => h) (by assumption) ⟨by rfl, ?_⟩ ?_
              · intro W hW
                go_simp
              try simp only [Act.put, List.setIfInBounds_toArray, List.set_cons_zero, List.set_cons_succ]
              refine anyR_take (i := 6) (.slice (some ⟨bK, oK, none⟩) 3 ck) rfl (by kernel_rfl) (by kernel_rfl) (by kernel_rfl) (by kernel_rfl) (fun _ _ _ h => h) (by assumption) ⟨by rfl, ?_⟩ ?_
              · intro W hW
                go_simp
              try simp only [Act.put, List.setIfInBounds_toArray, List.set_cons_zero, List.set_cons_succ]
              refine anyR_take (i := 7) (.int .i64 kk) rfl (by kernel_rfl) (by kernel_rfl) (by kernel_rfl) (by kernel_rfl) (fun _ _ _ h => h) (by assumption) ⟨by rfl, ?_⟩ ?_
              · intro W hW
                go_simp
              try simp only [Act.put, List.setIfInBounds_toArray, List.set_cons_zero, List.set_cons_succ]
              refine anyR_take (i := 8) (.pointer (some ⟨bK, oK + kk, none⟩)) rfl (by kernel_rfl) (by kernel_rfl) (by kernel_rfl) (by kernel_rfl) (fun _ _ _ h => h) (by assumption) ⟨by rfl, ?_⟩ ?_
              · intro W hW
                go_simp
              try simp only [Act.put, List.setIfInBounds_toArray, List.set_cons_zero, List.set_cons_succ]
              refine anyR_take (i := 5) (.slice Ak 1 ck') rfl (by kernel_rfl) (by kernel_rfl) (by kernel_rfl) (by kernel_rfl) (fun _ _ _ h => h) (by assumption) ⟨by rfl, ?_⟩ ?_
              · intro W hW
                go_simp
              try simp only [Act.put, List.setIfInBounds_toArray, List.set_cons_zero, List.set_cons_succ]
              refine anyR_take (i := 9) (.int .i64 xk) rfl (by kernel_rfl) (by kernel_rfl) (by kernel_rfl) (by kernel_rfl) (fun _ _ _ h => h) (by assumption) ⟨by rfl, ?_⟩ ?_
              · intro W hW
                go_simp
              try simp only [Act.put, List.setIfInBounds_toArray, List.set_cons_zero, List.set_cons_succ]
              refine anyR_one (i := 10) (by kernel_rfl) rfl ?_
              intro K hK
              go_simp
              refine hK.out _ _ (fun _ => ⟨cGA, cXA⟩) ?_
              clear hK K
              try simp only [Act.put, List.setIfInBounds_toArray, List.set_cons_zero, List.set_cons_succ]
              refine anyR_one (i := 11) (by kernel_rfl) rfl ?_
              intro K hK
              refine step_app_int _ (by rfl) _ _ (by rfl) N Ak 1 ck' _ (by rfl) OK.out xk z0 z1 wr.heap.size (by rfl) HCN.out (by omega) TA.out.lowB ?_
              intro A' c' w' g1 g2 g3
              have T1 := TA.out.drew.push' (j := kk + 2) R2.out E1.out g1 g2 g3
              have gG : w'.cell? ⟨G, kk, none⟩ = some (.slice Ak 1 ck') ∧ w'.frozen? ⟨G, kk, none⟩ = false := T1.cell (show pv'[kk]? = _ from E1.out)
              obtain ⟨gc, gf⟩ := gG
              have gx := (T1.bel.cell (p := ⟨bK, oK + kk, none⟩) hbK).trans CK2.out
              have T2 := T1.store kk (.slice A' (1 + 1) c')
              have TF : Hid (SS N w2 (w'.setCell ⟨G, kk, none⟩ (.slice A' (1 + 1) c')) Q6 (1 + 1) d6 BS (.slice A7 (1 + 1) c7 :: .slice A9 (1 + 1) c9 :: pv'.set kk (.slice A' (1 + 1) c')) ((V ++ [v]) :: (W ++ [x]) :: ext P0 P1 P2 [ka, kb, kc] (kk + 1)) G (pv'.set kk (.slice A' (1 + 1) c'))) := by
                show SS _ _ _ _ _ _ _ _ _ _ _
                rw [← HES.out]
                exact T2
              clear g1 g2 g3 T1 T2
              refine hK.out _ _ (fun _ => ⟨gc, gx⟩) ?_
              clear hK K
              try simp only [Act.put, List.setIfInBounds_toArray, List.set_cons_zero, List.set_cons_succ]
              refine anyR_one (i := 12) (by kernel_rfl) rfl ?_
              intro K hK
              go_simp
              refine hK.out _ _ (fun h => absurd h (by decide)) ?_
              clear hK K
              try simp only [Act.put, List.setIfInBounds_toArray, List.set_cons_zero, List.set_cons_succ]
              refine anyR_one (i := 13) (by kernel_rfl) rfl ?_
              intro K hK
              go_simp
              refine hK.out _ _ (fun h => absurd h (by decide)) ?_
              clear hK K
              try simp only [Act.put, List.setIfInBounds_toArray, List.set_cons_zero, List.set_cons_succ]
              refine anyR_done (by kernel_rfl) ?_ _
              refine NoPanic.normal ?_
              clear hS0
              go_wp2_with fail
              go_roundw
              case rel => exact ⟨kk + 1, _, by omega, by go_num, TF.out⟩
              case measure => simp [intOf]; omega
            · obtain rfl : kk = 3 := by omega
              go_wp2_with fail
              go_roundw
              case rel => exact ⟨1 + 1, Q6, d6, BS, V ++ [v], W ++ [x], P0 ++ [ka], P1 ++ [kb], P2 ++ [kc], A7, c7, A9, c9, pv', by omega, by go_num, rfl, rfl, rfl, T.out, NXT.out⟩
              case measure => simp [intOf]; omega
      · obtain rfl : i = q := by omega
        obtain ⟨x0, x1, x2, ce, c0, c1, c2, sm, op, op0, op1, op2⟩ := SI.out.opens (by omega)
        obtain ⟨vb, ov⟩ := SI.out.votes (by omega)
        obtain ⟨cb, cv'⟩ := SI.out.cast (by omega)
        have SO := Lib.hid (S2.out.own (j := 1) rfl rfl).2
        have OC : Hid (Calls Try.prog 29 #[.slice Av i cv, .slice Aw i cw] wr fun e w' => ∃ A c, e = .returned (.tuple #[.slice A 3 c, .bool true]) ∧ OwnI w' wr.heap.size A 3 c [x0, x1, x2] ∧ Below wr.heap.size wr w') := by
          have := implOpenCount_any Av i cv V Aw i cw W wr (S2.out.own (j := 0) rfl rfl).2.ints SO.out.ints
          rw [vb, ov, ce] at this
          exact this
        have OP := Lib.hid op
        have OP0 := Lib.hid op0
        have OP1 := Lib.hid op1
        have OP2 := Lib.hid op2
        have SM0 : Hid ([x0, x1, x2].sum = W.sum) := by show _ = _; rw [← sm]; simp; omega
        have ws := sum_take_bd SI.out.hw (by rw [SI.out.lw]; omega)
        have xs := sum_take_bd (l := [x0, x1, x2]) (M := 10) (by intro z hz; simp at hz; rcases hz with rfl | rfl | rfl <;> omega) (by simp)
        have CB := Lib.hid cb
        have CV := Lib.hid cv'
        have WS := Lib.hid ws
        have XS := Lib.hid xs
        clear op op0 op1 op2 vb ov ce cb cv' sm ws xs
        go_wp2_with fail
        refine OC.out.mono ?_
        rintro e w3 ⟨AC, cC, rfl, oC, b3⟩
        have S3 := Lib.hid (S2.out.below b3)
        have SO3 := Lib.hid (SO.out.below b3)
        have HC3 := Lib.hid oC
        have CC : Hid (Calls Try.prog 30 #[.slice Q i dq, .slice Aw i cw] w3 fun e w' => ∃ A c, e = .returned (.tuple #[.slice A 3 c, .bool true]) ∧ Below w3.heap.size w3 w') := by
          have := implCountSealed_any Q i dq (bs.map Mb.bal) Aw i cw W w3 S3.out.bals SO3.out.ints
          rw [CB.out, CV.out] at this
          exact this.mono fun e w' ⟨A, c, e1, _, b⟩ => ⟨A, c, by rw [e1, cntL_len], b⟩
        clear oC OC S2
        go_wp2_with fail
        refine CC.out.mono ?_
        rintro e w4 ⟨AD, cD, rfl, b4⟩
        have S4 := Lib.hid (S3.out.below b4)
        have SO4 := Lib.hid (SO3.out.below b4)
        have HC4 := Lib.hid (HC3.out.below b4)
        clear CC S3 SO3 HC3
        go_wp2_with fail
        refine (r8Sum_any AC 3 cC [x0, x1, x2] w4 HC4.out.ints XS.out).mono ?_
        rintro e w' ⟨rfl, rfl⟩
        rw [SM0.out]
        obtain ⟨sW, hsW⟩ : ∃ r, W.sum = r := ⟨_, rfl⟩
        rw [hsW]
        have qb : (sW != sW) = false := by simp
        have HSW := Lib.hid hsW
        clear hsW
        go_wp2_with fail
        refine (r8Sum_any Aw i cw W w4 SO4.out.ints WS.out).mono ?_
        rintro e w' ⟨rfl, rfl⟩
        rw [HSW.out]
        have A0 := Lib.hid (ownI_lit w4)
        have B0 := Lib.hid (bel_alloc w4 (.cells #[] 2))
        obtain ⟨SM, hSM⟩ : ∃ r, [joinK P0 W, joinK P1 W, joinK P2 W] = r := ⟨_, rfl⟩
        rw [hSM] at OP OP0 OP1 OP2
        have HSM := Lib.hid hSM
        clear hSM
        go_wp2_with fail
        go_loopw [21, 22] (fun bq t wr => ∃ (kk : Nat) (As : Option Addr) (cs : Nat), kk ≤ 3 ∧ t = .int .i64 kk ∧ bq = .slice As kk cs ∧ OwnI wr w4.heap.size As kk cs (SM.take kk) ∧ Below w4.heap.size w4 wr) (fun _ t _ => 3 - (intOf t).toNat)
        case atStart => exact ⟨0, _, _, by omega, rfl, rfl, A0.out, B0.out⟩
        case round =>
          obtain ⟨kk, As, cs, hk3, rfl, rfl, hO, hbel⟩ := hrel
          have HO := Lib.hid hO
          have HL := Lib.hid hbel
          clear hO hbel A0 B0
          have TS := Lib.hid (S4.out.below HL.out)
          have TO := Lib.hid (SO4.out.below HL.out)
          by_cases hkl : kk < 3
          · have hd3 : decide ((kk : Int) < 3) = true := by simp; omega
            have ji3 : (kk : Int) < 3 := by omega
            have ji0 : (0 : Int) ≤ (kk : Int) := by omega
            have KS := SI.out.key (by omega)
            obtain ⟨PK, xk, hp, hx, hj1, hj2, bx⟩ : ∃ PK xk, [V, W, P0, P1, P2][kk + 2]? = some PK ∧ SM[kk]? = some xk ∧ joinB PK W expB = true ∧ joinKV PK W = xk ∧ (0 ≤ xk ∧ xk < 500000003) := by
              rw [← HSM.out]
              match kk, hkl with
              | 0, _ => exact ⟨P0, _, rfl, rfl, KS.1.1, KS.1.2, joinK_bd _ _⟩
              | 1, _ => exact ⟨P1, _, rfl, rfl, KS.2.1.1, KS.2.1.2, joinK_bd _ _⟩
              | 2, _ => exact ⟨P2, _, rfl, rfl, KS.2.2.1, KS.2.2.2, joinK_bd _ _⟩
            obtain ⟨Ak, ck', e1, ok⟩ := TS.out.row (kk + 2) PK hp
            have e2 : pv[kk]? = some (.slice Ak PK.length ck') := e1
            obtain ⟨cG, fG⟩ := TS.out.cell e2
            have JK := implJoinKeys_any Ak PK.length ck' PK Aw i cw W wr ok.ints TO.out.ints
            rw [hj1, hj2] at JK
            have JH := Lib.hid JK
            have TK := Lib.hid (show SM.take (kk + 1) = SM.take kk ++ [xk] from take_snoc' hx)
            have szw := HL.out.size
            clear JK hj1 hj2 hx hp e1 e2 ok KS
            go_wp2_with fail
            refine JH.out.mono ?_
            rintro e w5 ⟨rfl, b5⟩
            have O5 := Lib.hid (HO.out.below b5)
            have sz5 := b5.size
            have L5 := Lib.hid (bel_trans HL.out b5)
            go_wp2_with (at_builtin; refine app_int_at w5 rfl _ _ rfl w4.heap.size As kk cs (SM.take kk) rfl O5.out xk (by omega) (by omega) rfl (by omega) (by omega) ?_; intro A6 c6 w6 g1 g2 g3; have O6 := Lib.hid g1; have L6 := Lib.hid (L5.out.grown g2 L5.out.size (fun x hx => (O5.out.block x hx).1)); clear g1 g2 g3)
            go_roundw
            case rel => exact ⟨kk + 1, A6, c6, by omega, by go_num, rfl, by rw [TK.out]; exact O6.out, L6.out⟩
            case measure => simp [intOf]; omega
          · obtain rfl : kk = 3 := by omega
            have HS3 : Hid (OwnI wr w4.heap.size As 3 cs SM) := by
              have := HO.out
              rwa [List.take_of_length_le (by rw [← HSM.out]; simp)] at this
            have HCr := HC4.out.below HL.out
            obtain ⟨gC, rfl, gC1, gC2⟩ := HCr.form (by omega)
            have HC := Lib.hid HCr
            have y0 := HC.out.cell (j := 0) (z := x0) rfl
            have y1 := HC.out.cell (j := 1) (z := x1) rfl
            have y2 := HC.out.cell (j := 2) (z := x2) rfl
            have ba := bel_alloc wr (.cells #[.int .i64 x0, .int .i64 x1, .int .i64 x2] 2)
            have HCa := HC.out.below ba
            have za0 := HCa.cell (j := 0) (z := x0) rfl
            have za1 := HCa.cell (j := 1) (z := x1) rfl
            have za2 := HCa.cell (j := 2) (z := x2) rfl
            have OW := Lib.hid (show OwnI (wr.alloc (.cells #[.int .i64 x0, .int .i64 x1, .int .i64 x2] 2)) wr.heap.size (some ⟨wr.heap.size, 0, none⟩) 3 3 [x0, x1, x2] from ownI_lits wr [x0, x1, x2] (by intro z hz; simp at hz; rcases hz with rfl | rfl | rfl <;> exact WalkArith.wf_i64 (by omega)) (by simp))
            have BA := Lib.hid ba
            clear ba HCr HCa
            go_wp2_with fail
            refine wp_region_R (inFirst (fun w' => w'.cell? ⟨gC, 0, none⟩ = some (.int .i64 x0) ∧ w'.cell? ⟨gC, 1, none⟩ = some (.int .i64 x1) ∧ w'.cell? ⟨gC, 2, none⟩ = some (.int .i64 x2)) 10) (by kernel_rfl) ?_
            have hS0 : (wr.drew.cell? ⟨gC, 0, none⟩ = some (.int .i64 x0) ∧ wr.drew.cell? ⟨gC, 1, none⟩ = some (.int .i64 x1) ∧ wr.drew.cell? ⟨gC, 2, none⟩ = some (.int .i64 x2)) := ⟨y0, y1, y2⟩
            refine anyR_take (i := 0) (.slice (some ⟨gC, 0, none⟩) 3 cC) rfl (by kernel_rfl) (by kernel_rfl) (by kernel_rfl) (by kernel_rfl) (fun _ _ _ h => h) (by assumption) ⟨by rfl, ?_⟩ ?_
            · intro W hW
              go_simp
            try simp only [Act.put, List.setIfInBounds_toArray, List.set_cons_zero, List.set_cons_succ]
            refine anyR_take (i := 1) (.pointer (some ⟨gC, 0, none⟩)) rfl (by kernel_rfl) (by kernel_rfl) (by kernel_rfl) (by kernel_rfl) (fun _ _ _ h => h) (by assumption) ⟨by rfl, ?_⟩ ?_
            · intro W hW
              go_simp
            try simp only [Act.put, List.setIfInBounds_toArray, List.set_cons_zero, List.set_cons_succ]
            refine anyR_take (i := 2) (.int .i64 x0) rfl (by kernel_rfl) (by kernel_rfl) (by kernel_rfl) (by kernel_rfl) (fun _ _ _ h => h) (by assumption) ⟨by rfl, ?_⟩ ?_
            · intro W hW
              go_simp
            try simp only [Act.put, List.setIfInBounds_toArray, List.set_cons_zero, List.set_cons_succ]
            refine anyR_take (i := 3) (.slice (some ⟨gC, 0, none⟩) 3 cC) rfl (by kernel_rfl) (by kernel_rfl) (by kernel_rfl) (by kernel_rfl) (fun _ _ _ h => h) (by assumption) ⟨by rfl, ?_⟩ ?_
            · intro W hW
              go_simp
            try simp only [Act.put, List.setIfInBounds_toArray, List.set_cons_zero, List.set_cons_succ]
            refine anyR_take (i := 4) (.pointer (some ⟨gC, 1, none⟩)) rfl (by kernel_rfl) (by kernel_rfl) (by kernel_rfl) (by kernel_rfl) (fun _ _ _ h => h) (by assumption) ⟨by rfl, ?_⟩ ?_
            · intro W hW
              go_simp
            try simp only [Act.put, List.setIfInBounds_toArray, List.set_cons_zero, List.set_cons_succ]
            refine anyR_take (i := 5) (.int .i64 x1) rfl (by kernel_rfl) (by kernel_rfl) (by kernel_rfl) (by kernel_rfl) (fun _ _ _ h => h) (by assumption) ⟨by rfl, ?_⟩ ?_
            · intro W hW
              go_simp
            try simp only [Act.put, List.setIfInBounds_toArray, List.set_cons_zero, List.set_cons_succ]
            refine anyR_take (i := 6) (.slice (some ⟨gC, 0, none⟩) 3 cC) rfl (by kernel_rfl) (by kernel_rfl) (by kernel_rfl) (by kernel_rfl) (fun _ _ _ h => h) (by assumption) ⟨by rfl, ?_⟩ ?_
            · intro W hW
              go_simp
            try simp only [Act.put, List.setIfInBounds_toArray, List.set_cons_zero, List.set_cons_succ]
            refine anyR_take (i := 7) (.pointer (some ⟨gC, 2, none⟩)) rfl (by kernel_rfl) (by kernel_rfl) (by kernel_rfl) (by kernel_rfl) (fun _ _ _ h => h) (by assumption) ⟨by rfl, ?_⟩ ?_
            · intro W hW
              go_simp
            try simp only [Act.put, List.setIfInBounds_toArray, List.set_cons_zero, List.set_cons_succ]
            refine anyR_take (i := 8) (.int .i64 x2) rfl (by kernel_rfl) (by kernel_rfl) (by kernel_rfl) (by kernel_rfl) (fun _ _ _ h => h) (by assumption) ⟨by rfl, ?_⟩ ?_
            · intro W hW
              go_simp
            try simp only [Act.put, List.setIfInBounds_toArray, List.set_cons_zero, List.set_cons_succ]
            refine anyR_one (i := 9) (by kernel_rfl) rfl ?_
            intro K hK
            go_simp
            refine hK.out _ _ (fun _ => ⟨za0, za1, za2⟩) ?_
            clear hK K
            try simp only [Act.put, List.setIfInBounds_toArray, List.set_cons_zero, List.set_cons_succ]
            refine anyR_one (i := 10) (by kernel_rfl) rfl ?_
            intro K hK
            go_simp
            refine hK.out _ _ (fun h => absurd h (by decide)) ?_
            clear hK K
            try simp only [Act.put, List.setIfInBounds_toArray, List.set_cons_zero, List.set_cons_succ]
            refine anyR_done (by kernel_rfl) ?_ _
            clear hS0 y0 y1 y2 za0 za1 za2
            have OW6 := OW.out.drew
            have B6 : Below wr.heap.size wr (wr.alloc (.cells #[.int .i64 x0, .int .i64 x1, .int .i64 x2] 2)).drew := ⟨BA.out.os, BA.out.tape, BA.out.output, BA.out.size, BA.out.block⟩
            obtain ⟨w6, hw6⟩ : ∃ z, (wr.alloc (.cells #[.int .i64 x0, .int .i64 x1, .int .i64 x2] 2)).drew = z := ⟨_, rfl⟩
            rw [hw6] at OW6 B6 ⊢
            have bw := bel_trans (bel_trans b12 S4.out.bel) HL.out
            have HI := Lib.hid (h.below (bel_trans bw B6))
            clear hw6 OW BA
            go_wp2_with fail
            refine (r8At_any A n c zs 4 3 _ HI.out (by omega) (by omega)).mono ?_
            rintro e w7 ⟨t, rfl, ht, b7⟩
            obtain ⟨t0, t1⟩ := ht.lt (by omega)
            have OW7 := OW6.below b7
            have B7 := bel_trans B6 b7
            rcases (show t = 0 ∨ t = 1 ∨ t = 2 by omega) with rfl | rfl | rfl
            · skip
              have qc := OW7.cell (j := 0) (z := x0) rfl
              have qf := OW7.free 0
              have ew : IntKind.i64.wrap (x0 + 1) = x0 + 1 := IntWalk.i64_in _ (by omega)
              have ST := (OW7.set 0 (x0 + 1) (by omega) (by omega)).1
              have B8 := B7.setCell (p := ⟨wr.heap.size, 0, none⟩) (Nat.le_refl _) (.int .i64 (x0 + 1))
              have I1 := implIsOpening_any Q i dq (bs.map Mb.bal) Aw i cw W (some ⟨gC, 0, none⟩) 3 cC [x0, x1, x2] As 3 cs SM _ (TS.out.bals.below B8) (TO.out.ints.below B8) (HC.out.ints.below B8) (HS3.out.ints.below B8)
              rw [OP.out] at I1
              have H1 := Lib.hid I1
              have H2 := Lib.hid (fun (X : World) (hX : Below (w7.setCell ⟨wr.heap.size, 0, none⟩ (.int .i64 (x0 + 1))).heap.size (w7.setCell ⟨wr.heap.size, 0, none⟩ (.int .i64 (x0 + 1))) X) => implIsOpening_any Q i dq (bs.map Mb.bal) Aw i cw W (some ⟨wr.heap.size, 0, none⟩) 3 3 [x0 + 1, x1, x2] As 3 cs SM X ((TS.out.bals.below B8).below hX) ((TO.out.ints.below B8).below hX) (ST.ints.below hX) ((HS3.out.ints.below B8).below hX))
              have BB := Lib.hid (bel_trans bw B8)
              clear I1 ST B8
              go_wp2_with fail
              refine H1.out.mono ?_
              rintro e w9 ⟨rfl, b9⟩
              go_wp2_with fail
              refine (H2.out w9 b9).mono ?_
              rintro e w10 ⟨rfl, b10⟩
              rw [OP0.out]
              go_wp2_with fail
              go_ret
              exact ⟨rfl, bel_trans (bel_trans BB.out b9) b10⟩
            · skip
              have qc := OW7.cell (j := 1) (z := x1) rfl
              have qf := OW7.free 1
              have ew : IntKind.i64.wrap (x1 + 1) = x1 + 1 := IntWalk.i64_in _ (by omega)
              have ST := (OW7.set 1 (x1 + 1) (by omega) (by omega)).1
              have B8 := B7.setCell (p := ⟨wr.heap.size, 1, none⟩) (Nat.le_refl _) (.int .i64 (x1 + 1))
              have I1 := implIsOpening_any Q i dq (bs.map Mb.bal) Aw i cw W (some ⟨gC, 0, none⟩) 3 cC [x0, x1, x2] As 3 cs SM _ (TS.out.bals.below B8) (TO.out.ints.below B8) (HC.out.ints.below B8) (HS3.out.ints.below B8)
              rw [OP.out] at I1
              have H1 := Lib.hid I1
              have H2 := Lib.hid (fun (X : World) (hX : Below (w7.setCell ⟨wr.heap.size, 1, none⟩ (.int .i64 (x1 + 1))).heap.size (w7.setCell ⟨wr.heap.size, 1, none⟩ (.int .i64 (x1 + 1))) X) => implIsOpening_any Q i dq (bs.map Mb.bal) Aw i cw W (some ⟨wr.heap.size, 0, none⟩) 3 3 [x0, x1 + 1, x2] As 3 cs SM X ((TS.out.bals.below B8).below hX) ((TO.out.ints.below B8).below hX) (ST.ints.below hX) ((HS3.out.ints.below B8).below hX))
              have BB := Lib.hid (bel_trans bw B8)
              clear I1 ST B8
              go_wp2_with fail
              refine H1.out.mono ?_
              rintro e w9 ⟨rfl, b9⟩
              go_wp2_with fail
              refine (H2.out w9 b9).mono ?_
              rintro e w10 ⟨rfl, b10⟩
              rw [OP1.out]
              go_wp2_with fail
              go_ret
              exact ⟨rfl, bel_trans (bel_trans BB.out b9) b10⟩
            · skip
              have qc := OW7.cell (j := 2) (z := x2) rfl
              have qf := OW7.free 2
              have ew : IntKind.i64.wrap (x2 + 1) = x2 + 1 := IntWalk.i64_in _ (by omega)
              have ST := (OW7.set 2 (x2 + 1) (by omega) (by omega)).1
              have B8 := B7.setCell (p := ⟨wr.heap.size, 2, none⟩) (Nat.le_refl _) (.int .i64 (x2 + 1))
              have I1 := implIsOpening_any Q i dq (bs.map Mb.bal) Aw i cw W (some ⟨gC, 0, none⟩) 3 cC [x0, x1, x2] As 3 cs SM _ (TS.out.bals.below B8) (TO.out.ints.below B8) (HC.out.ints.below B8) (HS3.out.ints.below B8)
              rw [OP.out] at I1
              have H1 := Lib.hid I1
              have H2 := Lib.hid (fun (X : World) (hX : Below (w7.setCell ⟨wr.heap.size, 2, none⟩ (.int .i64 (x2 + 1))).heap.size (w7.setCell ⟨wr.heap.size, 2, none⟩ (.int .i64 (x2 + 1))) X) => implIsOpening_any Q i dq (bs.map Mb.bal) Aw i cw W (some ⟨wr.heap.size, 0, none⟩) 3 3 [x0, x1, x2 + 1] As 3 cs SM X ((TS.out.bals.below B8).below hX) ((TO.out.ints.below B8).below hX) (ST.ints.below hX) ((HS3.out.ints.below B8).below hX))
              have BB := Lib.hid (bel_trans bw B8)
              clear I1 ST B8
              go_wp2_with fail
              refine H1.out.mono ?_
              rintro e w9 ⟨rfl, b9⟩
              go_wp2_with fail
              refine (H2.out w9 b9).mono ?_
              rintro e w10 ⟨rfl, b10⟩
              rw [OP2.out]
              go_wp2_with fail
              go_ret
              exact ⟨rfl, bel_trans (bel_trans BB.out b9) b10⟩
end Go.Proofs.Ytnjnngnagdhaiaa
