/- Rounds of a frame: the walk. -/
import Derived.Test.YteejfjgofpolkaaRnd
namespace Go.Proofs.Yteejfjgofpolkaa
set_option linter.unusedVariables false
set_option linter.unusedSimpArgs false
set_option maxRecDepth 100000
open Go.RowKit Go.Deep
set_option maxHeartbeats 4000000 in
theorem rounds_ok (n : Nat) (es : List (Nat × Nat)) (ok : FrOk n es) (A : Option Addr) (m c : Nat) (w : World) (h : Rws w A m c (es.map erow)) :
    Calls Try.prog 58 #[.agg #[.int .i64 n, .slice A m c]] w fun e w' => ∃ A' c' F, e = .returned (.slice A' n c') ∧ OwnI w' w.heap.size A' n c' (lst n F) ∧ RFin n (attM es) F ∧ Below w.heap.size w w' := by
  have b0 := bel_alloc w (.cells #[.int .i64 n, .slice A m c] 26)
  have C0 := Lib.hid (Cs.new w [.int .i64 n, .slice A m c] 26)
  have n10 := ok.n10
  have OK := Lib.hid ok
  have HBY := Lib.hid (fun a => attM_lt (n := 10) (es := es) (fun q hq => by have := (ok.inn q hq).1; omega) a)
  have HBN := Lib.hid (fun a b (hb : (attM es a).testBit b = true) => (ok.inn _ ((attM_bit es a b).1 hb)).1)
  have H := Lib.hid h
  clear ok
  have hmk := fun W => run_make_row' (P := Try.prog) 28 2 (.int .i64 0) 8 Try.underlying28 info_int rfl .i64 .i64 n (by omega) (by omega) W
  obtain ⟨w0, hw0⟩ : ∃ x, w.alloc (.cells [.int .i64 n, .slice A m c].toArray 26) = x := ⟨_, rfl⟩
  rw [hw0] at C0 b0
  have sz0 : w0.heap.size = w.heap.size + 1 := by rw [← hw0]; simp
  have HW := Lib.hid (show w.alloc (.cells #[.int .i64 n, .slice A m c] 26) = w0 from hw0)
  have MADE := Lib.hid (fun (W : World) => (show OwnI (W.alloc (.cells (madeCells #[.int .i64 0] n) 2)) W.heap.size (some ⟨W.heap.size, 0, none⟩) n n (lst n (fun _ => 0)) from by
    have := World.ownsRow_lit (base := W.heap.size) (e := 2) (size := 1) W (madeCells #[.int .i64 0] n) n (Nat.le_refl _) (by unfold maxLen; omega) (by simp [size_madeCells])
    rw [toList_madeCells_one] at this
    have e : lst n (fun _ => (0 : Int)) = List.replicate n 0 := by unfold lst; rw [List.map_const', List.length_range]
    rw [e]
    exact ⟨by simpa [vals] using this, fun z hz => by rw [List.eq_of_mem_replicate hz]; decide⟩))
  have ATT := Lib.hid (fun (W : World) (hW : Below w.heap.size w W) => attackers_ok n es OK.out A m c W (H.out.below hW))
  have B0 := Lib.hid b0
  have bm := Lib.hid (bel_alloc w0 (.cells (madeCells #[.int .i64 0] n) 2))
  have CM := Lib.hid (C0.out.below bm.out)
  clear hw0 b0
  go_enter Try.func58, Try.ntmps58
  go_wp2_with fail
  rw [HW.out]
  refine wp_region_noPanic ?_
  refine wp_region_R (inFirst (fun w' => w'.cell? ⟨w.heap.size, 0, none⟩ = some (.int .i64 n) ∧ w'.cell? ⟨w.heap.size, 1, none⟩ = some (.slice A m c)) 9) (by kernel_rfl) ?_
  have hS0 : (w0.drew.cell? ⟨w.heap.size, 0, none⟩ = some (.int .i64 n) ∧ w0.drew.cell? ⟨w.heap.size, 1, none⟩ = some (.slice A m c)) := ⟨C0.out.cell 0 rfl, C0.out.cell 1 rfl⟩
  refine anyR_take (i := 0) (.pointer (some ⟨w.heap.size, 0, none⟩)) rfl (by kernel_rfl) (by kernel_rfl) (by kernel_rfl) (by kernel_rfl) (fun _ _ _ h => h) (by assumption) ⟨by rfl, ?_⟩ ?_
  · intro W hW
    go_simp
  try simp only [Act.put, List.setIfInBounds_toArray, List.set_cons_zero, List.set_cons_succ, List.getElem_toArray, List.getElem_cons_zero, List.getElem_cons_succ]
  refine anyR_take (i := 1) (.int .i64 n) rfl (by kernel_rfl) (by kernel_rfl) (by kernel_rfl) (by kernel_rfl) (fun _ _ _ h => h) (by assumption) ⟨by rfl, ?_⟩ ?_
  · intro W hW
    go_simp
  try simp only [Act.put, List.setIfInBounds_toArray, List.set_cons_zero, List.set_cons_succ, List.getElem_toArray, List.getElem_cons_zero, List.getElem_cons_succ]
  refine anyR_take (i := 3) (.agg #[.int .i64 n, .slice A m c]) rfl (by kernel_rfl) (by kernel_rfl) (by kernel_rfl) (by kernel_rfl) (fun _ _ _ h => h) (by assumption) ⟨by rfl, ?_⟩ ?_
  · intro W hW
    go_simp
  try simp only [Act.put, List.setIfInBounds_toArray, List.set_cons_zero, List.set_cons_succ, List.getElem_toArray, List.getElem_cons_zero, List.getElem_cons_succ]
  refine anyR_two (i := 2) (j := 4) (by kernel_rfl) rfl rfl ?_ ?_
  · intro K hK
    go_simp
    refine hK.out _ _ (fun _ => ⟨CM.out.cell 0 rfl, CM.out.cell 1 rfl⟩) ?_
    clear hK K
    try simp only [Act.put, List.setIfInBounds_toArray, List.set_cons_zero, List.set_cons_succ, List.getElem_toArray, List.getElem_cons_zero, List.getElem_cons_succ]
    refine anyR_one (i := 4) (by kernel_rfl) rfl ?_
    intro K hK
    go_simp
    go_at_call 61
    have bq := bel_trans B0.out bm.out
    refine (ATT.out _ (show Below w.heap.size w (w0.alloc (.cells (madeCells #[.int .i64 0] n) 2)).drew from ⟨bq.os, bq.tape, bq.output, bq.size, bq.block⟩)).mono ?_
    rintro e w2 ⟨A', c', rfl, oA, b2'⟩
    have b2 : Below (w0.alloc (.cells (madeCells #[.int .i64 0] n) 2)).heap.size (w0.alloc (.cells (madeCells #[.int .i64 0] n) 2)) w2 := ⟨b2'.os, b2'.tape, b2'.output, b2'.size, b2'.block⟩
    have C2 := Lib.hid (CM.out.below b2)
    have OOUT := Lib.hid (((MADE.out w0).below b2).mono (b2 := w.heap.size) (by omega))
    rw [sz0] at OOUT
    have OATT := Lib.hid (oA.mono (b2 := w.heap.size) bq.size)
    have BWW := Lib.hid (bel_trans bq b2)
    clear oA b2 b2' bq
    refine hK.out _ _ (fun _ => ⟨C2.out.cell 0 rfl, C2.out.cell 1 rfl⟩) ?_
    clear hK K
    try simp only [Act.put, List.setIfInBounds_toArray, List.set_cons_zero, List.set_cons_succ, List.getElem_toArray, List.getElem_cons_zero, List.getElem_cons_succ]
    refine anyR_one (i := 5) (by kernel_rfl) rfl ?_
    intro K hK
    go_simp
    refine hK.out _ _ (fun _ => ⟨C2.out.cell 0 rfl, C2.out.cell 1 rfl⟩) ?_
    clear hK K
    try simp only [Act.put, List.setIfInBounds_toArray, List.set_cons_zero, List.set_cons_succ, List.getElem_toArray, List.getElem_cons_zero, List.getElem_cons_succ]
    refine anyR_one (i := 6) (by kernel_rfl) rfl ?_
    intro K hK
    go_simp
    refine hK.out _ _ (fun _ => ⟨C2.out.cell 0 rfl, C2.out.cell 1 rfl⟩) ?_
    clear hK K
    try simp only [Act.put, List.setIfInBounds_toArray, List.set_cons_zero, List.set_cons_succ, List.getElem_toArray, List.getElem_cons_zero, List.getElem_cons_succ]
    refine anyR_one (i := 7) (by kernel_rfl) rfl ?_
    intro K hK
    go_simp
    refine hK.out _ _ (fun _ => ⟨C2.out.cell 0 rfl, C2.out.cell 1 rfl⟩) ?_
    clear hK K
    try simp only [Act.put, List.setIfInBounds_toArray, List.set_cons_zero, List.set_cons_succ, List.getElem_toArray, List.getElem_cons_zero, List.getElem_cons_succ]
    refine anyR_one (i := 8) (by kernel_rfl) rfl ?_
    intro K hK
    go_simp
    refine hK.out _ _ (fun _ => ⟨C2.out.cell 0 rfl, C2.out.cell 1 rfl⟩) ?_
    clear hK K
    try simp only [Act.put, List.setIfInBounds_toArray, List.set_cons_zero, List.set_cons_succ, List.getElem_toArray, List.getElem_cons_zero, List.getElem_cons_succ]
    refine anyR_done (by kernel_rfl) ?_ _
    refine NoPanic.normal ?_
    clear hS0
    obtain ⟨gO, hgO⟩ : ∃ g, w.heap.size + 1 = g := ⟨_, rfl⟩
    rw [hgO] at OOUT ⊢
    clear C2 CM bm MADE ATT hmk
    go_wp2_with fail
    go_loopw [4, 5, 7] (fun a r t wr => ∃ (k : Nat) (F : Nat → Int), 1 ≤ k ∧ k ≤ bef n F + 1 ∧ t = .int .i64 k ∧ a = .int .i64 (accM n F : Nat) ∧ r = .int .i64 (rejM n F : Nat) ∧ OwnI wr w.heap.size (some ⟨gO, 0, none⟩) n n (lst n F) ∧ OwnN wr w.heap.size A' n c' (attL n es) ∧ Below w.heap.size w wr ∧ RInv n (attM es) F k) (fun _ _ t _ => 1025 - (intOf t).toNat)
    case atStart => exact ⟨1, fun _ => 0, by omega, by omega, rfl, by rw [accM_zero]; rfl, by rw [rejM_zero]; rfl, OOUT.out, OATT.out, BWW.out, RInv.start n _⟩
    case round =>
      obtain ⟨k, F, hk1, hkb, rfl, rfl, rfl, hO, hN, hB, hI⟩ := hrel
      have HO := Lib.hid hO
      have HN := Lib.hid hN
      have HB := Lib.hid hB
      have HI := Lib.hid hI
      clear hO hN hB hI OOUT OATT BWW
      have kp : (0 : Int) < (k : Int) := by omega
      have bb := pow10 n10 (bef_lt n F)
      have ba := pow10 n10 (mk_lt (fun a => decide (0 < F a)) n)
      have br := pow10 n10 (mk_lt (fun a => decide (F a < 0)) n)
      change accM n F < 1024 at ba
      change rejM n F < 1024 at br
      have BF := Lib.hid (fun (j : Nat) (hj : j < n) => bef_bit F hj)
      have AS := Lib.hid (acc_step (n := n) (by_ := attM es) (F := F) kp)
      have RS := Lib.hid (rej_step (n := n) (by_ := attM es) (F := F) kp)
      have S1 := Lib.hid (fun (j : Nat) (hj : j < n) => st1_of (F := F) (k := (k : Int)) HBY.out n10 j hj)
      have S1D : Hid (∀ j, st1 n (attM es) F k j = if F j = 0 ∧ ldf (attM es j) (rejM n F) = 0 then (k : Int) else F j) := fun j => rfl
      have NX : Hid (RInv n (attM es) (nxt n (attM es) F k) ((k : Int) + 1) ∧ (bef n (nxt n (attM es) F k) = bef n F → RFin n (attM es) (nxt n (attM es) F k)) ∧ bef n F ≤ bef n (nxt n (attM es) F k)) := ⟨HI.out.next HBY.out HBN.out n10 kp, HI.out.fin HBY.out HBN.out n10 kp (by omega), bef_mono HBY.out HBN.out n10 kp⟩
      have hor := i64_or (accM n F) (rejM n F) (by omega) (by omega)
      rw [show accM n F ||| rejM n F = bef n F from rfl] at hor
      obtain ⟨F1, hF1⟩ : ∃ G, st1 n (attM es) F k = G := ⟨_, rfl⟩
      have NXD : Hid (nxt n (attM es) F k = st2 n (attM es) F1 k) := by show _ = _; rw [← hF1]; rfl
      rw [hF1] at AS RS S1D
      obtain ⟨ac, hac⟩ : ∃ r, accM n F = r := ⟨_, rfl⟩
      obtain ⟨rj, hrj⟩ : ∃ r, rejM n F = r := ⟨_, rfl⟩
      obtain ⟨bf, hbf⟩ : ∃ r, bef n F = r := ⟨_, rfl⟩
      rw [hac] at ba AS hor
      rw [hrj] at br RS hor S1D
      rw [hbf] at bb hkb BF hor NX
      rw [hac, hrj]
      have k1024 : k ≤ 1024 := by omega
      clear hac hrj hbf hF1 HI S1
      go_wp2_with fail
      go_loopw [26] (fun t wr => ∃ j : Nat, j ≤ n ∧ t = .int .i64 j ∧ OwnI wr w.heap.size (some ⟨gO, 0, none⟩) n n (lst n (fun a => if a < j then F1 a else F a)) ∧ OwnN wr w.heap.size A' n c' (attL n es) ∧ Below w.heap.size w wr) (fun t _ => n - (intOf t).toNat)
      case atStart => exact ⟨0, by omega, rfl, by rw [lst_zero]; exact HO.out, HN.out, HB.out⟩
      case round =>
        obtain ⟨j, hj, rfl, hO, hN, hB⟩ := hrel
        have O2 := Lib.hid hO
        have N2 := Lib.hid hN
        have B2 := Lib.hid hB
        clear hO hN hB HO HN HB
        by_cases hlt : j < n
        · obtain ⟨gA, rfl, _, _⟩ := N2.out.form (by omega)
          have qa := N2.out.cell (attL_at es hlt)
          have hyb := HBY.out j
          have sd := S1D.out j
          have hd := decide_eq_true (show (j : Int) < (n : Int) by omega)
          have j0 : (0 : Int) ≤ (j : Int) := by omega
          have j1 : (j : Int) < (n : Int) := by omega
          have bit := BF.out j hlt
          have O2c := O2.out.cell (lst_at _ hlt)
          rw [if_neg (Nat.lt_irrefl j)] at O2c
          have O2f := O2.out.free j
          obtain ⟨yb, hy⟩ : ∃ r, attM es j = r := ⟨_, rfl⟩
          rw [hy] at qa hyb sd
          have han := i64_andNot yb rj (by omega) (by omega)
          by_cases h0 : F j = 0
          · have hsh := shr_zero (m := bf) (i := j) (by omega) (by rw [bit]; simp [h0])
            by_cases hz : ldf yb rj = 0
            · rw [hz] at han
              rw [if_pos ⟨h0, hz⟩] at sd
              have E := Lib.hid (lst_put (n := n) (F := F) (G := F1) sd)
              have ST := Lib.hid (O2.out.set j (k : Int) (by omega) (by omega)).1
              have SN := Lib.hid (N2.out.kept (O2.out.set j (k : Int) (by omega) (by omega)).2 (own_ne N2.out.1 O2.out.1 (by decide)))
              have SB := Lib.hid (B2.out.setCell (p := ⟨gO, j, none⟩) (O2.out.block gO rfl).1 (.int .i64 k))
              clear hy bit sd h0 hz
              go_wp2_with fail
              go_roundw
              case rel => exact ⟨j + 1, by omega, by go_num, by rw [← E.out]; exact ST.out, SN.out, SB.out⟩
              case measure => simp [intOf]; omega
            · have hq : ((((ldf yb rj : Nat) : Int)) == 0) = false := by simpa using hz
              rw [if_neg (fun hh => hz hh.2)] at sd
              have E := Lib.hid (lst_go (n := n) (F := F) (G := F1) sd.symm)
              clear hy bit sd h0
              go_wp2_with fail
              go_roundw
              case rel => exact ⟨j + 1, by omega, by go_num, by rw [← E.out]; exact O2.out, N2.out, B2.out⟩
              case measure => simp [intOf]; omega
          · have hsh := shr_one (m := bf) (i := j) (by omega) (by rw [bit]; simp [h0])
            rw [if_neg (fun hh => h0 hh.1)] at sd
            have E := Lib.hid (lst_go (n := n) (F := F) (G := F1) sd.symm)
            clear hy bit sd
            go_wp2_with fail
            go_roundw
            case rel => exact ⟨j + 1, by omega, by go_num, by rw [← E.out]; exact O2.out, N2.out, B2.out⟩
            case measure => simp [intOf]; omega
        · obtain rfl : n = j := by omega
          have O3 : Hid (OwnI wr w.heap.size (some ⟨gO, 0, none⟩) n n (lst n F1)) := by show OwnI _ _ _ _ _ _; have := O2.out; rwa [lst_end] at this
          clear O2 BF S1D hor
          go_wp2_with fail
          go_loop [4, 49] (fun a t => ∃ j : Nat, j ≤ n ∧ t = .int .i64 j ∧ a = .int .i64 (ac ||| mk (fun a => decide (0 < F1 a)) j : Nat)) (fun _ t => n - (intOf t).toNat)
          case atStart => exact ⟨0, by omega, rfl, by simp [mk]⟩
          case round =>
            obtain ⟨j, hj, rfl, rfl⟩ := hrel
            by_cases hlt : j < n
            · have hd := decide_eq_true (show (j : Int) < (n : Int) by omega)
              have j0 : (0 : Int) ≤ (j : Int) := by omega
              have j1 : (j : Int) < (n : Int) := by omega
              have O3c := O3.out.cell (lst_at _ hlt)
              have hm := pow10 (n := 10) (by omega) (Nat.lt_of_lt_of_le (mk_lt (fun a => decide (0 < F1 a)) j) (Nat.pow_le_pow_right (by omega) (show j ≤ 10 by omega)))
              have hM := Nat.or_lt_two_pow (n := 10) (x := ac) (y := mk (fun a => decide (0 < F1 a)) j) (by omega) (by omega)
              have hsl := shl_wrap (a := j) (by omega)
              have h2p := two_pow_lt (a := j) (by omega)
              have hmy := fun h => mk_yes (p := fun a => decide (0 < F1 a)) (k := j) ac h
              have hmn := fun h => mk_no (p := fun a => decide (0 < F1 a)) (k := j) h
              obtain ⟨M, hMe⟩ : ∃ r, ac ||| mk (fun a => decide (0 < F1 a)) j = r := ⟨_, rfl⟩
              rw [hMe] at hM hmy ⊢
              obtain ⟨z, hz⟩ : ∃ r, F1 j = r := ⟨_, rfl⟩
              rw [hz] at O3c
              by_cases hp : 0 < z
              · have hdz := decide_eq_true hp
                have hor := i64_or M (2 ^ j) (by omega) (by omega)
                rw [show ((2 ^ j : Nat) : Int) = (2 : Int) ^ j by simp] at hor
                have E := Lib.hid (hmy (by simpa [hz] using hp))
                clear hmy hmn hz hMe hm
                go_wp2_with fail
                go_round
                case rel => exact ⟨j + 1, by omega, by go_num, by rw [E.out]⟩
                case measure => simp [intOf]; omega
              · have hdz := decide_eq_false hp
                have E := Lib.hid (show ac ||| mk (fun a => decide (0 < F1 a)) (j + 1) = M by rw [hmn (by simpa [hz] using hp), hMe])
                clear hmy hmn hz hMe hm
                go_wp2_with fail
                go_round
                case rel => exact ⟨j + 1, by omega, by go_num, by rw [E.out]⟩
                case measure => simp [intOf]; omega
            · obtain rfl : n = j := by omega
              rw [AS.out]
              have BF1 := Lib.hid (fun (j : Nat) (hj : j < n) => bef_bit F1 hj)
              have ba1 := pow10 n10 (mk_lt (fun a => decide (0 < F1 a)) n)
              change accM n F1 < 1024 at ba1
              have bb1 := pow10 n10 (bef_lt n F1)
              have hor1 := i64_or (accM n F1) rj (by omega) (by omega)
              rw [show accM n F1 ||| rj = bef n F1 by rw [RS.out]; rfl] at hor1
              have A2 := Lib.hid (acc_step2 (n := n) (by_ := attM es) (F := F1) kp)
              have R2 := Lib.hid (rej_step2 (n := n) (by_ := attM es) (F := F1) kp)
              have S2D : Hid (∀ j, st2 n (attM es) F1 k j = if F1 j = 0 ∧ attM es j &&& accM n F1 ≠ 0 then -(k : Int) else F1 j) := fun j => rfl
              rw [← RS.out] at R2
              rw [NXD.out] at NX
              obtain ⟨F2, hF2⟩ : ∃ G, st2 n (attM es) F1 k = G := ⟨_, rfl⟩
              rw [hF2] at A2 R2 S2D NX
              obtain ⟨a1, ha1⟩ : ∃ r, accM n F1 = r := ⟨_, rfl⟩
              obtain ⟨b1, hb1⟩ : ∃ r, bef n F1 = r := ⟨_, rfl⟩
              rw [ha1] at ba1 hor1 A2 S2D
              rw [hb1] at BF1 bb1 hor1
              rw [ha1]
              have ew : IntKind.i64.wrap (-(k : Int)) = -(k : Int) := IntWalk.i64_in _ (by omega)
              clear hF2 ha1 hb1 AS NXD
              go_wp2_with fail
              go_loopw [64] (fun t wr => ∃ j : Nat, j ≤ n ∧ t = .int .i64 j ∧ OwnI wr w.heap.size (some ⟨gO, 0, none⟩) n n (lst n (fun a => if a < j then F2 a else F1 a)) ∧ OwnN wr w.heap.size A' n c' (attL n es) ∧ Below w.heap.size w wr) (fun t _ => n - (intOf t).toNat)
              case atStart => exact ⟨0, by omega, rfl, by rw [lst_zero]; exact O3.out, N2.out, B2.out⟩
              case round =>
                obtain ⟨j, hj, rfl, hO, hN, hB⟩ := hrel
                have O4 := Lib.hid hO
                have N4 := Lib.hid hN
                have B4 := Lib.hid hB
                clear hO hN hB O3 N2 B2
                by_cases hlt : j < n
                · obtain ⟨gA, rfl, _, _⟩ := N4.out.form (by omega)
                  have qa := N4.out.cell (attL_at es hlt)
                  have hyb := HBY.out j
                  have sd := S2D.out j
                  have hd := decide_eq_true (show (j : Int) < (n : Int) by omega)
                  have j0 : (0 : Int) ≤ (j : Int) := by omega
                  have j1 : (j : Int) < (n : Int) := by omega
                  have bit := BF1.out j hlt
                  have O4c := O4.out.cell (lst_at _ hlt)
                  rw [if_neg (Nat.lt_irrefl j)] at O4c
                  have O4f := O4.out.free j
                  obtain ⟨yb, hy⟩ : ∃ r, attM es j = r := ⟨_, rfl⟩
                  rw [hy] at qa hyb sd
                  have han := i64_and yb a1 (by omega) (by omega)
                  by_cases h0 : F1 j = 0
                  · have hsh := shr_zero (m := b1) (i := j) (by omega) (by rw [bit]; simp [h0])
                    by_cases hz : yb &&& a1 = 0
                    · rw [hz] at han
                      rw [if_neg (fun hh => hh.2 hz)] at sd
                      have E := Lib.hid (lst_go (n := n) (F := F1) (G := F2) sd.symm)
                      clear hy bit sd h0 hz
                      go_wp2_with fail
                      go_roundw
                      case rel => exact ⟨j + 1, by omega, by go_num, by rw [← E.out]; exact O4.out, N4.out, B4.out⟩
                      case measure => simp [intOf]; omega
                    · have hq : (((yb &&& a1 : Nat) : Int) != 0) = true := by simpa using hz
                      rw [if_pos ⟨h0, hz⟩] at sd
                      obtain ⟨ya, hya⟩ : ∃ r, yb &&& a1 = r := ⟨_, rfl⟩
                      rw [hya] at han hq
                      have E := Lib.hid (lst_put (n := n) (F := F1) (G := F2) sd)
                      have ST := Lib.hid (O4.out.set j (-(k : Int)) (by omega) (by omega)).1
                      have SN := Lib.hid (N4.out.kept (O4.out.set j (-(k : Int)) (by omega) (by omega)).2 (own_ne N4.out.1 O4.out.1 (by decide)))
                      have SB := Lib.hid (B4.out.setCell (p := ⟨gO, j, none⟩) (O4.out.block gO rfl).1 (.int .i64 (-(k : Int))))
                      clear hy bit sd h0 hz hya
                      go_wp2_with fail
                      go_roundw
                      case rel => exact ⟨j + 1, by omega, by go_num, by rw [← E.out]; exact ST.out, SN.out, SB.out⟩
                      case measure => simp [intOf]; omega
                  · have hsh := shr_one (m := b1) (i := j) (by omega) (by rw [bit]; simp [h0])
                    rw [if_neg (fun hh => h0 hh.1)] at sd
                    have E := Lib.hid (lst_go (n := n) (F := F1) (G := F2) sd.symm)
                    clear hy bit sd
                    go_wp2_with fail
                    go_roundw
                    case rel => exact ⟨j + 1, by omega, by go_num, by rw [← E.out]; exact O4.out, N4.out, B4.out⟩
                    case measure => simp [intOf]; omega
                · obtain rfl : n = j := by omega
                  have O5 : Hid (OwnI wr w.heap.size (some ⟨gO, 0, none⟩) n n (lst n F2)) := by show OwnI _ _ _ _ _ _; have := O4.out; rwa [lst_end] at this
                  clear O4 BF1 S2D hor1
                  go_wp2_with fail
                  go_loop [5, 91] (fun a t => ∃ j : Nat, j ≤ n ∧ t = .int .i64 j ∧ a = .int .i64 (rj ||| mk (fun a => decide (F2 a < 0)) j : Nat)) (fun _ t => n - (intOf t).toNat)
                  case atStart => exact ⟨0, by omega, rfl, by simp [mk]⟩
                  case round =>
                    obtain ⟨j, hj, rfl, rfl⟩ := hrel
                    by_cases hlt : j < n
                    · have hd := decide_eq_true (show (j : Int) < (n : Int) by omega)
                      have j0 : (0 : Int) ≤ (j : Int) := by omega
                      have j1 : (j : Int) < (n : Int) := by omega
                      have O5c := O5.out.cell (lst_at _ hlt)
                      have hm := pow10 (n := 10) (by omega) (Nat.lt_of_lt_of_le (mk_lt (fun a => decide (F2 a < 0)) j) (Nat.pow_le_pow_right (by omega) (show j ≤ 10 by omega)))
                      have hM := Nat.or_lt_two_pow (n := 10) (x := rj) (y := mk (fun a => decide (F2 a < 0)) j) (by omega) (by omega)
                      have hsl := shl_wrap (a := j) (by omega)
                      have h2p := two_pow_lt (a := j) (by omega)
                      have hmy := fun h => mk_yes (p := fun a => decide (F2 a < 0)) (k := j) rj h
                      have hmn := fun h => mk_no (p := fun a => decide (F2 a < 0)) (k := j) h
                      obtain ⟨M, hMe⟩ : ∃ r, rj ||| mk (fun a => decide (F2 a < 0)) j = r := ⟨_, rfl⟩
                      rw [hMe] at hM hmy ⊢
                      obtain ⟨z, hz⟩ : ∃ r, F2 j = r := ⟨_, rfl⟩
                      rw [hz] at O5c
                      by_cases hp : z < 0
                      · have hdz := decide_eq_true hp
                        have hor := i64_or M (2 ^ j) (by omega) (by omega)
                        rw [show ((2 ^ j : Nat) : Int) = (2 : Int) ^ j by simp] at hor
                        have E := Lib.hid (hmy (by simpa [hz] using hp))
                        clear hmy hmn hz hMe hm
                        go_wp2_with fail
                        go_round
                        case rel => exact ⟨j + 1, by omega, by go_num, by rw [E.out]⟩
                        case measure => simp [intOf]; omega
                      · have hdz := decide_eq_false hp
                        have E := Lib.hid (show rj ||| mk (fun a => decide (F2 a < 0)) (j + 1) = M by rw [hmn (by simpa [hz] using hp), hMe])
                        clear hmy hmn hz hMe hm
                        go_wp2_with fail
                        go_round
                        case rel => exact ⟨j + 1, by omega, by go_num, by rw [E.out]⟩
                        case measure => simp [intOf]; omega
                    · obtain rfl : n = j := by omega
                      rw [R2.out]
                      have br2 := pow10 n10 (mk_lt (fun a => decide (F2 a < 0)) n)
                      change rejM n F2 < 1024 at br2
                      have bb2 := pow10 n10 (bef_lt n F2)
                      have hor := i64_or a1 (rejM n F2) (by omega) (by omega)
                      rw [show a1 ||| rejM n F2 = bef n F2 by rw [A2.out]; rfl] at hor
                      have RR := Lib.hid (rfl : rejM n F2 = rejM n F2)
                      obtain ⟨r2, hr2⟩ : ∃ r, rejM n F2 = r := ⟨_, rfl⟩
                      obtain ⟨b2, hb2⟩ : ∃ r, bef n F2 = r := ⟨_, rfl⟩
                      rw [hb2] at hor bb2 NX
                      rw [hr2] at hor br2 ⊢
                      have HB2 := Lib.hid hb2
                      have HR2 := Lib.hid hr2
                      clear hb2 hr2 R2 RR
                      by_cases he : b2 = bf
                      · have hq : ((b2 : Int) == (bf : Int)) = true := by simp [he]
                        have FIN := Lib.hid (NX.out.2.1 he)
                        clear he
                        go_wp2_with fail
                        go_ret
                        exact ⟨_, _, rfl, F2, O5.out, FIN.out, B4.out⟩
                      · have hq : ((b2 : Int) == (bf : Int)) = false := by simp; omega
                        have hle := NX.out.2.2
                        go_wp2_with fail
                        go_roundw
                        case rel => exact ⟨k + 1, F2, by omega, by rw [HB2.out]; omega, by go_num, by rw [← A2.out], by rw [HR2.out], O5.out, N4.out, B4.out, by have := NX.out.1; rwa [show ((k + 1 : Nat) : Int) = (k : Int) + 1 by omega]⟩
                        case measure => simp [intOf]; omega
  · intro K hK
    go_simp
    go_at_call 61
    refine (ATT.out _ (show Below w.heap.size w w0.drew from ⟨B0.out.os, B0.out.tape, B0.out.output, B0.out.size, B0.out.block⟩)).mono ?_
    rintro e w1 ⟨A', c', rfl, oA, b2'⟩
    have b1 : Below w0.heap.size w0 w1 := ⟨b2'.os, b2'.tape, b2'.output, b2'.size, b2'.block⟩
    have C1 := Lib.hid (C0.out.below b1)
    refine hK.out _ _ (fun _ => ⟨C1.out.cell 0 rfl, C1.out.cell 1 rfl⟩) ?_
    clear hK K
    try simp only [Act.put, List.setIfInBounds_toArray, List.set_cons_zero, List.set_cons_succ, List.getElem_toArray, List.getElem_cons_zero, List.getElem_cons_succ]
    refine anyR_one (i := 2) (by kernel_rfl) rfl ?_
    intro K hK
    go_simp
    have bq := bel_alloc w1 (.cells (madeCells #[.int .i64 0] n) 2)
    have C2 := Lib.hid (C1.out.below bq)
    have bB := bel_trans B0.out b1
    have OOUT := Lib.hid ((MADE.out w1).mono (b2 := w.heap.size) bB.size)
    have OATT := Lib.hid ((oA.below bq).mono (b2 := w.heap.size) B0.out.size)
    have BWW := Lib.hid (bel_trans bB bq)
    clear oA b2' bq bB
    refine hK.out _ _ (fun _ => ⟨C2.out.cell 0 rfl, C2.out.cell 1 rfl⟩) ?_
    clear hK K
    try simp only [Act.put, List.setIfInBounds_toArray, List.set_cons_zero, List.set_cons_succ, List.getElem_toArray, List.getElem_cons_zero, List.getElem_cons_succ]
    refine anyR_one (i := 5) (by kernel_rfl) rfl ?_
    intro K hK
    go_simp
    refine hK.out _ _ (fun _ => ⟨C2.out.cell 0 rfl, C2.out.cell 1 rfl⟩) ?_
    clear hK K
    try simp only [Act.put, List.setIfInBounds_toArray, List.set_cons_zero, List.set_cons_succ, List.getElem_toArray, List.getElem_cons_zero, List.getElem_cons_succ]
    refine anyR_one (i := 6) (by kernel_rfl) rfl ?_
    intro K hK
    go_simp
    refine hK.out _ _ (fun _ => ⟨C2.out.cell 0 rfl, C2.out.cell 1 rfl⟩) ?_
    clear hK K
    try simp only [Act.put, List.setIfInBounds_toArray, List.set_cons_zero, List.set_cons_succ, List.getElem_toArray, List.getElem_cons_zero, List.getElem_cons_succ]
    refine anyR_one (i := 7) (by kernel_rfl) rfl ?_
    intro K hK
    go_simp
    refine hK.out _ _ (fun _ => ⟨C2.out.cell 0 rfl, C2.out.cell 1 rfl⟩) ?_
    clear hK K
    try simp only [Act.put, List.setIfInBounds_toArray, List.set_cons_zero, List.set_cons_succ, List.getElem_toArray, List.getElem_cons_zero, List.getElem_cons_succ]
    refine anyR_one (i := 8) (by kernel_rfl) rfl ?_
    intro K hK
    go_simp
    refine hK.out _ _ (fun _ => ⟨C2.out.cell 0 rfl, C2.out.cell 1 rfl⟩) ?_
    clear hK K
    try simp only [Act.put, List.setIfInBounds_toArray, List.set_cons_zero, List.set_cons_succ, List.getElem_toArray, List.getElem_cons_zero, List.getElem_cons_succ]
    refine anyR_done (by kernel_rfl) ?_ _
    refine NoPanic.normal ?_
    clear hS0
    obtain ⟨gO, hgO⟩ : ∃ g, w1.heap.size = g := ⟨_, rfl⟩
    rw [hgO] at OOUT ⊢
    clear C2 CM bm MADE ATT hmk
    go_wp2_with fail
    go_loopw [4, 5, 7] (fun a r t wr => ∃ (k : Nat) (F : Nat → Int), 1 ≤ k ∧ k ≤ bef n F + 1 ∧ t = .int .i64 k ∧ a = .int .i64 (accM n F : Nat) ∧ r = .int .i64 (rejM n F : Nat) ∧ OwnI wr w.heap.size (some ⟨gO, 0, none⟩) n n (lst n F) ∧ OwnN wr w.heap.size A' n c' (attL n es) ∧ Below w.heap.size w wr ∧ RInv n (attM es) F k) (fun _ _ t _ => 1025 - (intOf t).toNat)
    case atStart => exact ⟨1, fun _ => 0, by omega, by omega, rfl, by rw [accM_zero]; rfl, by rw [rejM_zero]; rfl, OOUT.out, OATT.out, BWW.out, RInv.start n _⟩
    case round =>
      obtain ⟨k, F, hk1, hkb, rfl, rfl, rfl, hO, hN, hB, hI⟩ := hrel
      have HO := Lib.hid hO
      have HN := Lib.hid hN
      have HB := Lib.hid hB
      have HI := Lib.hid hI
      clear hO hN hB hI OOUT OATT BWW
      have kp : (0 : Int) < (k : Int) := by omega
      have bb := pow10 n10 (bef_lt n F)
      have ba := pow10 n10 (mk_lt (fun a => decide (0 < F a)) n)
      have br := pow10 n10 (mk_lt (fun a => decide (F a < 0)) n)
      change accM n F < 1024 at ba
      change rejM n F < 1024 at br
      have BF := Lib.hid (fun (j : Nat) (hj : j < n) => bef_bit F hj)
      have AS := Lib.hid (acc_step (n := n) (by_ := attM es) (F := F) kp)
      have RS := Lib.hid (rej_step (n := n) (by_ := attM es) (F := F) kp)
      have S1 := Lib.hid (fun (j : Nat) (hj : j < n) => st1_of (F := F) (k := (k : Int)) HBY.out n10 j hj)
      have S1D : Hid (∀ j, st1 n (attM es) F k j = if F j = 0 ∧ ldf (attM es j) (rejM n F) = 0 then (k : Int) else F j) := fun j => rfl
      have NX : Hid (RInv n (attM es) (nxt n (attM es) F k) ((k : Int) + 1) ∧ (bef n (nxt n (attM es) F k) = bef n F → RFin n (attM es) (nxt n (attM es) F k)) ∧ bef n F ≤ bef n (nxt n (attM es) F k)) := ⟨HI.out.next HBY.out HBN.out n10 kp, HI.out.fin HBY.out HBN.out n10 kp (by omega), bef_mono HBY.out HBN.out n10 kp⟩
      have hor := i64_or (accM n F) (rejM n F) (by omega) (by omega)
      rw [show accM n F ||| rejM n F = bef n F from rfl] at hor
      obtain ⟨F1, hF1⟩ : ∃ G, st1 n (attM es) F k = G := ⟨_, rfl⟩
      have NXD : Hid (nxt n (attM es) F k = st2 n (attM es) F1 k) := by show _ = _; rw [← hF1]; rfl
      rw [hF1] at AS RS S1D
      obtain ⟨ac, hac⟩ : ∃ r, accM n F = r := ⟨_, rfl⟩
      obtain ⟨rj, hrj⟩ : ∃ r, rejM n F = r := ⟨_, rfl⟩
      obtain ⟨bf, hbf⟩ : ∃ r, bef n F = r := ⟨_, rfl⟩
      rw [hac] at ba AS hor
      rw [hrj] at br RS hor S1D
      rw [hbf] at bb hkb BF hor NX
      rw [hac, hrj]
      have k1024 : k ≤ 1024 := by omega
      clear hac hrj hbf hF1 HI S1
      go_wp2_with fail
      go_loopw [26] (fun t wr => ∃ j : Nat, j ≤ n ∧ t = .int .i64 j ∧ OwnI wr w.heap.size (some ⟨gO, 0, none⟩) n n (lst n (fun a => if a < j then F1 a else F a)) ∧ OwnN wr w.heap.size A' n c' (attL n es) ∧ Below w.heap.size w wr) (fun t _ => n - (intOf t).toNat)
      case atStart => exact ⟨0, by omega, rfl, by rw [lst_zero]; exact HO.out, HN.out, HB.out⟩
      case round =>
        obtain ⟨j, hj, rfl, hO, hN, hB⟩ := hrel
        have O2 := Lib.hid hO
        have N2 := Lib.hid hN
        have B2 := Lib.hid hB
        clear hO hN hB HO HN HB
        by_cases hlt : j < n
        · obtain ⟨gA, rfl, _, _⟩ := N2.out.form (by omega)
          have qa := N2.out.cell (attL_at es hlt)
          have hyb := HBY.out j
          have sd := S1D.out j
          have hd := decide_eq_true (show (j : Int) < (n : Int) by omega)
          have j0 : (0 : Int) ≤ (j : Int) := by omega
          have j1 : (j : Int) < (n : Int) := by omega
          have bit := BF.out j hlt
          have O2c := O2.out.cell (lst_at _ hlt)
          rw [if_neg (Nat.lt_irrefl j)] at O2c
          have O2f := O2.out.free j
          obtain ⟨yb, hy⟩ : ∃ r, attM es j = r := ⟨_, rfl⟩
          rw [hy] at qa hyb sd
          have han := i64_andNot yb rj (by omega) (by omega)
          by_cases h0 : F j = 0
          · have hsh := shr_zero (m := bf) (i := j) (by omega) (by rw [bit]; simp [h0])
            by_cases hz : ldf yb rj = 0
            · rw [hz] at han
              rw [if_pos ⟨h0, hz⟩] at sd
              have E := Lib.hid (lst_put (n := n) (F := F) (G := F1) sd)
              have ST := Lib.hid (O2.out.set j (k : Int) (by omega) (by omega)).1
              have SN := Lib.hid (N2.out.kept (O2.out.set j (k : Int) (by omega) (by omega)).2 (own_ne N2.out.1 O2.out.1 (by decide)))
              have SB := Lib.hid (B2.out.setCell (p := ⟨gO, j, none⟩) (O2.out.block gO rfl).1 (.int .i64 k))
              clear hy bit sd h0 hz
              go_wp2_with fail
              go_roundw
              case rel => exact ⟨j + 1, by omega, by go_num, by rw [← E.out]; exact ST.out, SN.out, SB.out⟩
              case measure => simp [intOf]; omega
            · have hq : ((((ldf yb rj : Nat) : Int)) == 0) = false := by simpa using hz
              rw [if_neg (fun hh => hz hh.2)] at sd
              have E := Lib.hid (lst_go (n := n) (F := F) (G := F1) sd.symm)
              clear hy bit sd h0
              go_wp2_with fail
              go_roundw
              case rel => exact ⟨j + 1, by omega, by go_num, by rw [← E.out]; exact O2.out, N2.out, B2.out⟩
              case measure => simp [intOf]; omega
          · have hsh := shr_one (m := bf) (i := j) (by omega) (by rw [bit]; simp [h0])
            rw [if_neg (fun hh => h0 hh.1)] at sd
            have E := Lib.hid (lst_go (n := n) (F := F) (G := F1) sd.symm)
            clear hy bit sd
            go_wp2_with fail
            go_roundw
            case rel => exact ⟨j + 1, by omega, by go_num, by rw [← E.out]; exact O2.out, N2.out, B2.out⟩
            case measure => simp [intOf]; omega
        · obtain rfl : n = j := by omega
          have O3 : Hid (OwnI wr w.heap.size (some ⟨gO, 0, none⟩) n n (lst n F1)) := by show OwnI _ _ _ _ _ _; have := O2.out; rwa [lst_end] at this
          clear O2 BF S1D hor
          go_wp2_with fail
          go_loop [4, 49] (fun a t => ∃ j : Nat, j ≤ n ∧ t = .int .i64 j ∧ a = .int .i64 (ac ||| mk (fun a => decide (0 < F1 a)) j : Nat)) (fun _ t => n - (intOf t).toNat)
          case atStart => exact ⟨0, by omega, rfl, by simp [mk]⟩
          case round =>
            obtain ⟨j, hj, rfl, rfl⟩ := hrel
            by_cases hlt : j < n
            · have hd := decide_eq_true (show (j : Int) < (n : Int) by omega)
              have j0 : (0 : Int) ≤ (j : Int) := by omega
              have j1 : (j : Int) < (n : Int) := by omega
              have O3c := O3.out.cell (lst_at _ hlt)
              have hm := pow10 (n := 10) (by omega) (Nat.lt_of_lt_of_le (mk_lt (fun a => decide (0 < F1 a)) j) (Nat.pow_le_pow_right (by omega) (show j ≤ 10 by omega)))
              have hM := Nat.or_lt_two_pow (n := 10) (x := ac) (y := mk (fun a => decide (0 < F1 a)) j) (by omega) (by omega)
              have hsl := shl_wrap (a := j) (by omega)
              have h2p := two_pow_lt (a := j) (by omega)
              have hmy := fun h => mk_yes (p := fun a => decide (0 < F1 a)) (k := j) ac h
              have hmn := fun h => mk_no (p := fun a => decide (0 < F1 a)) (k := j) h
              obtain ⟨M, hMe⟩ : ∃ r, ac ||| mk (fun a => decide (0 < F1 a)) j = r := ⟨_, rfl⟩
              rw [hMe] at hM hmy ⊢
              obtain ⟨z, hz⟩ : ∃ r, F1 j = r := ⟨_, rfl⟩
              rw [hz] at O3c
              by_cases hp : 0 < z
              · have hdz := decide_eq_true hp
                have hor := i64_or M (2 ^ j) (by omega) (by omega)
                rw [show ((2 ^ j : Nat) : Int) = (2 : Int) ^ j by simp] at hor
                have E := Lib.hid (hmy (by simpa [hz] using hp))
                clear hmy hmn hz hMe hm
                go_wp2_with fail
                go_round
                case rel => exact ⟨j + 1, by omega, by go_num, by rw [E.out]⟩
                case measure => simp [intOf]; omega
              · have hdz := decide_eq_false hp
                have E := Lib.hid (show ac ||| mk (fun a => decide (0 < F1 a)) (j + 1) = M by rw [hmn (by simpa [hz] using hp), hMe])
                clear hmy hmn hz hMe hm
                go_wp2_with fail
                go_round
                case rel => exact ⟨j + 1, by omega, by go_num, by rw [E.out]⟩
                case measure => simp [intOf]; omega
            · obtain rfl : n = j := by omega
              rw [AS.out]
              have BF1 := Lib.hid (fun (j : Nat) (hj : j < n) => bef_bit F1 hj)
              have ba1 := pow10 n10 (mk_lt (fun a => decide (0 < F1 a)) n)
              change accM n F1 < 1024 at ba1
              have bb1 := pow10 n10 (bef_lt n F1)
              have hor1 := i64_or (accM n F1) rj (by omega) (by omega)
              rw [show accM n F1 ||| rj = bef n F1 by rw [RS.out]; rfl] at hor1
              have A2 := Lib.hid (acc_step2 (n := n) (by_ := attM es) (F := F1) kp)
              have R2 := Lib.hid (rej_step2 (n := n) (by_ := attM es) (F := F1) kp)
              have S2D : Hid (∀ j, st2 n (attM es) F1 k j = if F1 j = 0 ∧ attM es j &&& accM n F1 ≠ 0 then -(k : Int) else F1 j) := fun j => rfl
              rw [← RS.out] at R2
              rw [NXD.out] at NX
              obtain ⟨F2, hF2⟩ : ∃ G, st2 n (attM es) F1 k = G := ⟨_, rfl⟩
              rw [hF2] at A2 R2 S2D NX
              obtain ⟨a1, ha1⟩ : ∃ r, accM n F1 = r := ⟨_, rfl⟩
              obtain ⟨b1, hb1⟩ : ∃ r, bef n F1 = r := ⟨_, rfl⟩
              rw [ha1] at ba1 hor1 A2 S2D
              rw [hb1] at BF1 bb1 hor1
              rw [ha1]
              have ew : IntKind.i64.wrap (-(k : Int)) = -(k : Int) := IntWalk.i64_in _ (by omega)
              clear hF2 ha1 hb1 AS NXD
              go_wp2_with fail
              go_loopw [64] (fun t wr => ∃ j : Nat, j ≤ n ∧ t = .int .i64 j ∧ OwnI wr w.heap.size (some ⟨gO, 0, none⟩) n n (lst n (fun a => if a < j then F2 a else F1 a)) ∧ OwnN wr w.heap.size A' n c' (attL n es) ∧ Below w.heap.size w wr) (fun t _ => n - (intOf t).toNat)
              case atStart => exact ⟨0, by omega, rfl, by rw [lst_zero]; exact O3.out, N2.out, B2.out⟩
              case round =>
                obtain ⟨j, hj, rfl, hO, hN, hB⟩ := hrel
                have O4 := Lib.hid hO
                have N4 := Lib.hid hN
                have B4 := Lib.hid hB
                clear hO hN hB O3 N2 B2
                by_cases hlt : j < n
                · obtain ⟨gA, rfl, _, _⟩ := N4.out.form (by omega)
                  have qa := N4.out.cell (attL_at es hlt)
                  have hyb := HBY.out j
                  have sd := S2D.out j
                  have hd := decide_eq_true (show (j : Int) < (n : Int) by omega)
                  have j0 : (0 : Int) ≤ (j : Int) := by omega
                  have j1 : (j : Int) < (n : Int) := by omega
                  have bit := BF1.out j hlt
                  have O4c := O4.out.cell (lst_at _ hlt)
                  rw [if_neg (Nat.lt_irrefl j)] at O4c
                  have O4f := O4.out.free j
                  obtain ⟨yb, hy⟩ : ∃ r, attM es j = r := ⟨_, rfl⟩
                  rw [hy] at qa hyb sd
                  have han := i64_and yb a1 (by omega) (by omega)
                  by_cases h0 : F1 j = 0
                  · have hsh := shr_zero (m := b1) (i := j) (by omega) (by rw [bit]; simp [h0])
                    by_cases hz : yb &&& a1 = 0
                    · rw [hz] at han
                      rw [if_neg (fun hh => hh.2 hz)] at sd
                      have E := Lib.hid (lst_go (n := n) (F := F1) (G := F2) sd.symm)
                      clear hy bit sd h0 hz
                      go_wp2_with fail
                      go_roundw
                      case rel => exact ⟨j + 1, by omega, by go_num, by rw [← E.out]; exact O4.out, N4.out, B4.out⟩
                      case measure => simp [intOf]; omega
                    · have hq : (((yb &&& a1 : Nat) : Int) != 0) = true := by simpa using hz
                      rw [if_pos ⟨h0, hz⟩] at sd
                      obtain ⟨ya, hya⟩ : ∃ r, yb &&& a1 = r := ⟨_, rfl⟩
                      rw [hya] at han hq
                      have E := Lib.hid (lst_put (n := n) (F := F1) (G := F2) sd)
                      have ST := Lib.hid (O4.out.set j (-(k : Int)) (by omega) (by omega)).1
                      have SN := Lib.hid (N4.out.kept (O4.out.set j (-(k : Int)) (by omega) (by omega)).2 (own_ne N4.out.1 O4.out.1 (by decide)))
                      have SB := Lib.hid (B4.out.setCell (p := ⟨gO, j, none⟩) (O4.out.block gO rfl).1 (.int .i64 (-(k : Int))))
                      clear hy bit sd h0 hz hya
                      go_wp2_with fail
                      go_roundw
                      case rel => exact ⟨j + 1, by omega, by go_num, by rw [← E.out]; exact ST.out, SN.out, SB.out⟩
                      case measure => simp [intOf]; omega
                  · have hsh := shr_one (m := b1) (i := j) (by omega) (by rw [bit]; simp [h0])
                    rw [if_neg (fun hh => h0 hh.1)] at sd
                    have E := Lib.hid (lst_go (n := n) (F := F1) (G := F2) sd.symm)
                    clear hy bit sd
                    go_wp2_with fail
                    go_roundw
                    case rel => exact ⟨j + 1, by omega, by go_num, by rw [← E.out]; exact O4.out, N4.out, B4.out⟩
                    case measure => simp [intOf]; omega
                · obtain rfl : n = j := by omega
                  have O5 : Hid (OwnI wr w.heap.size (some ⟨gO, 0, none⟩) n n (lst n F2)) := by show OwnI _ _ _ _ _ _; have := O4.out; rwa [lst_end] at this
                  clear O4 BF1 S2D hor1
                  go_wp2_with fail
                  go_loop [5, 91] (fun a t => ∃ j : Nat, j ≤ n ∧ t = .int .i64 j ∧ a = .int .i64 (rj ||| mk (fun a => decide (F2 a < 0)) j : Nat)) (fun _ t => n - (intOf t).toNat)
                  case atStart => exact ⟨0, by omega, rfl, by simp [mk]⟩
                  case round =>
                    obtain ⟨j, hj, rfl, rfl⟩ := hrel
                    by_cases hlt : j < n
                    · have hd := decide_eq_true (show (j : Int) < (n : Int) by omega)
                      have j0 : (0 : Int) ≤ (j : Int) := by omega
                      have j1 : (j : Int) < (n : Int) := by omega
                      have O5c := O5.out.cell (lst_at _ hlt)
                      have hm := pow10 (n := 10) (by omega) (Nat.lt_of_lt_of_le (mk_lt (fun a => decide (F2 a < 0)) j) (Nat.pow_le_pow_right (by omega) (show j ≤ 10 by omega)))
                      have hM := Nat.or_lt_two_pow (n := 10) (x := rj) (y := mk (fun a => decide (F2 a < 0)) j) (by omega) (by omega)
                      have hsl := shl_wrap (a := j) (by omega)
                      have h2p := two_pow_lt (a := j) (by omega)
                      have hmy := fun h => mk_yes (p := fun a => decide (F2 a < 0)) (k := j) rj h
                      have hmn := fun h => mk_no (p := fun a => decide (F2 a < 0)) (k := j) h
                      obtain ⟨M, hMe⟩ : ∃ r, rj ||| mk (fun a => decide (F2 a < 0)) j = r := ⟨_, rfl⟩
                      rw [hMe] at hM hmy ⊢
                      obtain ⟨z, hz⟩ : ∃ r, F2 j = r := ⟨_, rfl⟩
                      rw [hz] at O5c
                      by_cases hp : z < 0
                      · have hdz := decide_eq_true hp
                        have hor := i64_or M (2 ^ j) (by omega) (by omega)
                        rw [show ((2 ^ j : Nat) : Int) = (2 : Int) ^ j by simp] at hor
                        have E := Lib.hid (hmy (by simpa [hz] using hp))
                        clear hmy hmn hz hMe hm
                        go_wp2_with fail
                        go_round
                        case rel => exact ⟨j + 1, by omega, by go_num, by rw [E.out]⟩
                        case measure => simp [intOf]; omega
                      · have hdz := decide_eq_false hp
                        have E := Lib.hid (show rj ||| mk (fun a => decide (F2 a < 0)) (j + 1) = M by rw [hmn (by simpa [hz] using hp), hMe])
                        clear hmy hmn hz hMe hm
                        go_wp2_with fail
                        go_round
                        case rel => exact ⟨j + 1, by omega, by go_num, by rw [E.out]⟩
                        case measure => simp [intOf]; omega
                    · obtain rfl : n = j := by omega
                      rw [R2.out]
                      have br2 := pow10 n10 (mk_lt (fun a => decide (F2 a < 0)) n)
                      change rejM n F2 < 1024 at br2
                      have bb2 := pow10 n10 (bef_lt n F2)
                      have hor := i64_or a1 (rejM n F2) (by omega) (by omega)
                      rw [show a1 ||| rejM n F2 = bef n F2 by rw [A2.out]; rfl] at hor
                      have RR := Lib.hid (rfl : rejM n F2 = rejM n F2)
                      obtain ⟨r2, hr2⟩ : ∃ r, rejM n F2 = r := ⟨_, rfl⟩
                      obtain ⟨b2, hb2⟩ : ∃ r, bef n F2 = r := ⟨_, rfl⟩
                      rw [hb2] at hor bb2 NX
                      rw [hr2] at hor br2 ⊢
                      have HB2 := Lib.hid hb2
                      have HR2 := Lib.hid hr2
                      clear hb2 hr2 R2 RR
                      by_cases he : b2 = bf
                      · have hq : ((b2 : Int) == (bf : Int)) = true := by simp [he]
                        have FIN := Lib.hid (NX.out.2.1 he)
                        clear he
                        go_wp2_with fail
                        go_ret
                        exact ⟨_, _, rfl, F2, O5.out, FIN.out, B4.out⟩
                      · have hq : ((b2 : Int) == (bf : Int)) = false := by simp; omega
                        have hle := NX.out.2.2
                        go_wp2_with fail
                        go_roundw
                        case rel => exact ⟨k + 1, F2, by omega, by rw [HB2.out]; omega, by go_num, by rw [← A2.out], by rw [HR2.out], O5.out, N4.out, B4.out, by have := NX.out.1; rwa [show ((k + 1 : Nat) : Int) = (k : Int) + 1 by omega]⟩
                        case measure => simp [intOf]; omega
end Go.Proofs.Yteejfjgofpolkaa
