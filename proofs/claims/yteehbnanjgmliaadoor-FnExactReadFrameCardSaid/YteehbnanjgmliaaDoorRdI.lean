/- impl.ReadFrame of every string. -/
import Derived.Test.YteehbnanjgmliaaDoorRdN
import Derived.Test.YteehbnanjgmliaaDoorFrLaw
namespace Go.Proofs.YteehbnanjgmliaaDoor
set_option linter.unusedVariables false
set_option linter.unusedSimpArgs false
set_option maxRecDepth 100000
open Go.RowKit Go.Sort
theorem ownI_row (w : World) (zs : List Int) (hz : ∀ z ∈ zs, (Lit.int .i64 z).wf = true) (hl : zs.length ≤ 1048576) :
    OwnI (w.alloc (.cells (vals zs).toArray 2)) w.heap.size (some ⟨w.heap.size, 0, none⟩) zs.length zs.length zs :=
  ⟨by simpa using World.ownsRow_lit (base := w.heap.size) (e := 2) (size := 1) w (vals zs).toArray zs.length (Nat.le_refl _) (by unfold maxLen; omega) (by simp [vals]), hz⟩
theorem ownM_nil (w : World) (B : Nat) : OwnM w B none 0 0 [] [] := ⟨World.ownsRow_nil _ _ _ _, rfl, by simp, .nil⟩
theorem ext_size (s : ByteArray) (a b : Nat) : (s.extract a b).size ≤ s.size := by
  rw [ByteArray.size_extract]; omega
theorem split_size (sep : ByteArray) : ∀ (k : Nat) (s : ByteArray), ∀ p ∈ Lib.splitB sep 0 k s, p.size ≤ s.size
  | 0, s, p, hp => by
    rw [Lib.splitB_zero] at hp
    simp at hp
    subst hp
    exact Nat.le_refl _
  | k + 1, s, p, hp => by
    unfold Lib.splitB at hp
    split at hp
    · simp at hp
      subst hp
      exact Nat.le_refl _
    · rcases List.mem_cons.1 hp with rfl | hp
      · exact ext_size _ _ _
      · exact Nat.le_trans (split_size sep k _ p hp) (ext_size _ _ _)
theorem cut_size (s sep : ByteArray) : (⟨(Lib.cut s.data.toList sep.data.toList).1.toArray⟩ : ByteArray).size ≤ s.size ∧ (⟨(Lib.cut s.data.toList sep.data.toList).2.1.toArray⟩ : ByteArray).size ≤ s.size := by
  rw [size_list s, size_list (⟨(Lib.cut s.data.toList sep.data.toList).1.toArray⟩ : ByteArray), size_list (⟨(Lib.cut s.data.toList sep.data.toList).2.1.toArray⟩ : ByteArray)]
  unfold Lib.cut
  split <;> simp
  omega
def ReadPost (s : ByteArray) (w : World) (e : Ending) (w' : World) : Prop :=
  ∃ (cnt : Int) (rows : List (List Int)) (b : Bool) (A : Option Addr) (c : Nat) (vs : List Value), e = .returned (.tuple #[.agg #[.int .i64 cnt, .slice A rows.length c], .bool b]) ∧ OwnM w' w.heap.size A rows.length c vs rows ∧ Res s cnt rows b ∧ Below w.heap.size w w'
set_option maxHeartbeats 4000000 in
theorem implRead_any (s : ByteArray) (hs : s.size ≤ 1048576) (w : World) (L : Lb w) :
    Calls Tryd.prog 5 #[.string s] w (ReadPost s w) := by
  have b0 := bel_alloc w (.cells #[.int .i64 0, .slice none 0 0] 24)
  have C0 := Cs.new w [.int .i64 0, .slice none 0 0] 24
  have sz0 : (w.alloc (.cells #[.int .i64 0, .slice none 0 0] 24)).heap.size = w.heap.size + 1 := by simp
  by_cases hbig : 1000 < s.size
  · have hd := decide_eq_true (show (1000 : Int) < (s.size : Int) by omega)
    have NO := Lib.hid (show ∀ n es, FrOk n es → frT n (es.map erow) ≠ s from fun n es ok e => by have := frT_short ok; rw [e] at this; omega)
    have B0 := Lib.hid b0
    have y0 := C0.cell 0 rfl
    have y1 := C0.cell 1 rfl
    clear b0
    go_enter Tryd.func5, Tryd.ntmps5
    go_wp2_with fail
    exact bodyPost_ret (v := .tuple #[.agg #[.int .i64 0, .slice none 0 0], .bool false]) (by simp [results, Tryd.results5, go_sem, y0, y1]) rfl ⟨0, [], false, none, 0, [], rfl, ownM_nil _ _, .inr ⟨rfl, rfl, rfl, NO.out⟩, B0.out⟩
  · have hd := decide_eq_false (show ¬ (1000 : Int) < (s.size : Int) by omega)
    obtain ⟨m, hm⟩ := (L.below b0).mx
    have SP0 := Tryd.strings_Split s ⟨#[32]⟩ m _ (by omega) hm (by decide)
    have HL0 := Lib.splitB_all ⟨#[32]⟩ (by decide) 0 _ s rfl
    have HK := Lib.countB_le ⟨#[32]⟩ (by decide) _ s (Nat.le_refl _)
    have HS0 := split_size ⟨#[32]⟩ (Lib.countB s ⟨#[32]⟩) s
    have FR := Lib.hid (show ∀ n es, FrOk n es → frT n (es.map erow) = s → es.length = Lib.countB s ⟨#[32]⟩ ∧ Lib.splitB ⟨#[32]⟩ 0 (Lib.countB s ⟨#[32]⟩) s = decT n :: es.map wB from fun n es ok e => by
      rw [← e, frT_count ok]
      exact ⟨rfl, frT_split ok⟩)
    obtain ⟨K, hK⟩ : ∃ K, Lib.countB s ⟨#[32]⟩ = K := ⟨_, rfl⟩
    rw [hK] at SP0 HL0 HK HS0 FR
    obtain ⟨ws, hws⟩ : ∃ ws, Lib.splitB ⟨#[32]⟩ 0 K s = ws := ⟨_, rfl⟩
    rw [hws] at SP0 HL0 HS0 FR
    rw [sz0] at SP0
    have SP := Lib.hid SP0
    have HS := Lib.hid (fun (p : ByteArray) hp => show p.size ≤ 1000 by have := HS0 p hp; omega)
    have HB0 := Lib.hid b0
    have HC0 := Lib.hid C0
    have SZ0 := Lib.hid sz0
    obtain ⟨h0, tl, rfl⟩ : ∃ h tl, ws = h :: tl := by cases ws with | nil => simp at HL0 | cons h tl => exact ⟨h, tl, rfl⟩
    have htl : tl.length = K := by simpa using HL0
    clear b0 C0 sz0 hK hws hm SP0 HS0 HL0
    go_enter Tryd.func5, Tryd.ntmps5
    go_wp2_with fail
    refine SP.out.mono ?_
    rintro e w2 ⟨rfl, hw2⟩
    have sz2 : w2.heap.size = w.heap.size + 2 := by rw [hw2]; simp
    have B2 : Hid (Below w.heap.size w w2) := by rw [hw2]; exact bel_trans HB0.out (bel_alloc _ _)
    have C2 : Hid (Cs w2 w.heap.size [.int .i64 0, .slice none 0 0]) := by rw [hw2]; exact HC0.out.alloc _
    have CW : Hid (Cs w2 (w.heap.size + 1) ((h0 :: tl).map Value.string)) := by
      have := Cs.new (w.alloc (.cells #[.int .i64 0, .slice none 0 0] 24)) ((h0 :: tl).map Value.string) 9
      rw [SZ0.out] at this
      rw [hw2]
      exact this
    clear hw2 SP HB0 HC0 SZ0
    have B3 := Lib.hid (bel_trans B2.out (bel_alloc w2 (.cells #[.int .i64 0, .slice none 0 0] 24)))
    have C3 := Lib.hid (C2.out.alloc (.cells #[.int .i64 0, .slice none 0 0] 24))
    have CW3 := Lib.hid (CW.out.alloc (.cells #[.int .i64 0, .slice none 0 0] 24))
    have F3 := Cs.new w2 [.int .i64 0, .slice none 0 0] 24
    rw [sz2] at F3
    have HF3 := Lib.hid F3
    have q0 := CW3.out.cell 0 rfl
    clear B2 C2 CW F3
    go_wp2_with fail
    obtain ⟨w3, hw3⟩ : ∃ z, w2.alloc (.cells #[.int .i64 0, .slice none 0 0] 24) = z := ⟨_, rfl⟩
    have sz3 : w3.heap.size = w.heap.size + 3 := by rw [← hw3]; simp [sz2]
    rw [show (.cells [Value.int .i64 0, .slice none 0 0].toArray 24 : Obj) = .cells #[.int .i64 0, .slice none 0 0] 24 from rfl] at HF3
    rw [hw3] at B3 C3 CW3 HF3 q0 ⊢
    clear hw3 sz2 q0
    refine (readNum_any h0 (HS.out h0 (by simp)) w3 (L.below B3.out)).mono ?_
    rintro e w4 ⟨cnt, bo, rfl, c0, c1, hcnt, b4⟩
    have HCNT := Lib.hid hcnt
    have F4 := HF3.out.below b4
    have z0 := F4.cell 0 rfl
    have zf := F4.free 0 rfl
    have F5 := Lib.hid (F4.set 0 (.int .i64 cnt) (by simp))
    have C5 := Lib.hid ((C3.out.below b4).far (g' := w.heap.size + 2) (by omega) 0 (.int .i64 cnt))
    have CW5 := Lib.hid ((CW3.out.below b4).far (g' := w.heap.size + 2) (by omega) 0 (.int .i64 cnt))
    have B4 := Lib.hid (bel_trans B3.out b4)
    have B5 := Lib.hid (B4.out.setCell (p := ⟨w.heap.size + 2, 0, none⟩) (by show w.heap.size ≤ w.heap.size + 2; omega) (.int .i64 cnt))
    have sz5 : w.heap.size + 3 ≤ w4.heap.size := by have := b4.size; omega
    clear hcnt F4 b4 HF3 C3 CW3 B3
    by_cases hK0 : K = 0
    · subst hK0
      go_wp2_with fail
      go_loopw [35] (fun t wr => ∃ (k : Nat) (Q : Option Addr) (d : Nat) (vs : List Value) (rows : List (List Int)), k ≤ 0 ∧ t = .int .i64 k ∧ rows.length = k ∧ Cs wr (w.heap.size + 2) [.int .i64 cnt, .slice Q k d] ∧ OwnM wr (w.heap.size + 3) Q k d vs rows ∧ Cs wr w.heap.size [.int .i64 0, .slice none 0 0] ∧ Cs wr (w.heap.size + 1) ((h0 :: tl).map Value.string) ∧ (∀ n es, FrOk n es → frT n (es.map erow) = s → rows = (es.take k).map erow) ∧ w.heap.size + 3 ≤ wr.heap.size ∧ Below w.heap.size w wr) (fun t _ => 0 - (intOf t).toNat)
      case atStart => exact ⟨0, none, 0, [], [], Nat.zero_le _, rfl, rfl, F5.out, ownM_nil _ _, C5.out, CW5.out, fun _ _ _ _ => rfl, by rw [show (w4.setCell ⟨w.heap.size + 2, 0, none⟩ (.int .i64 cnt)).heap.size = w4.heap.size by simp [World.setCell]]; exact sz5, B5.out⟩
      case round =>
        obtain ⟨k, Q, d, vs, rows, hk, rfl, hrl, hF, hM, hC, hW, hP, hz, hB⟩ := hrel
        have FR5 := Lib.hid hF
        have MR := Lib.hid hM
        have CR := Lib.hid hC
        have WR := Lib.hid hW
        have PR := Lib.hid hP
        have BR := Lib.hid hB
        clear hF hM hC hW hP hB
        obtain rfl : k = 0 := by omega
        have QM := Lib.hid (MR.out.rws)
        have HRL := Lib.hid hrl
        have FA := Lib.hid (frameText_any cnt rows Q 0 d wr QM.out (by omega))
        have f0 := FR5.out.cell 0 rfl
        have f1 := FR5.out.cell 1 rfl
        go_wp2_with fail
        refine FA.out.mono ?_
        rintro e w6 ⟨rfl, b6⟩
        have B6 := Lib.hid (bel_trans BR.out b6)
        have C6 := CR.out.below b6
        have F6 := FR5.out.below b6
        have M6 := Lib.hid (MR.out.below b6)
        have g0 := C6.cell 0 rfl
        have g1 := C6.cell 1 rfl
        have g0f := C6.free 0 rfl
        have g1f := C6.free 1 rfl
        have h0c := F6.cell 0 rfl
        have h1c := F6.cell 1 rfl
        have RD := Lib.hid (show Reads s cnt rows from fun n es ok e => by
          obtain ⟨e1, e2⟩ := FR.out n es ok e
          injection e2 with e2 e3
          refine ⟨HCNT.out n (by have := ok.n10; omega) e2, ?_⟩
          rw [PR.out n es ok e, ← e1, List.take_length])
        clear b6 f0 f1 FA F6
        cases hf : frB cnt rows
        · have R := Lib.hid (RD.out.no (fun h => by rw [hf] at h; cases h))
          have CE := Lib.hid ((C6.set 0 (.int .i64 0) (by simp)).set 1 (.slice none 0 0) (by simp))
          have BE := Lib.hid ((B6.out.setCell (p := ⟨w.heap.size, 0, none⟩) (Nat.le_refl _) (.int .i64 0)).setCell (p := ⟨w.heap.size, 1, none⟩) (Nat.le_refl _) (.slice none 0 0))
          clear C6 hf h0c h1c
          go_wp2_with fail
          obtain ⟨w9, hw9⟩ : ∃ z, (w6.setCell ⟨w.heap.size, 0, none⟩ (.int .i64 0)).setCell ⟨w.heap.size, 1, none⟩ (.slice none 0 0) = z := ⟨_, rfl⟩
          rw [hw9] at CE BE ⊢
          have k0 := CE.out.cell 0 rfl
          have k1 := CE.out.cell 1 rfl
          exact bodyPost_ret (v := .tuple #[.agg #[.int .i64 0, .slice none 0 0], .bool false]) (by simp [results, Tryd.results5, go_sem, k0, k1]) rfl ⟨0, [], false, none, 0, [], rfl, ownM_nil _ _, R.out, BE.out⟩
        · by_cases ht : frT cnt rows = s
          · have R := Lib.hid (Reads.yes hf ht)
            have hq : ((frText cnt rows).toList == s.toList) = true := by unfold frText; rw [hf, if_pos rfl, ht]; simp
            have CE := Lib.hid ((C6.set 0 (.int .i64 cnt) (by simp)).set 1 (.slice Q 0 d) (by simp))
            have BE := Lib.hid ((B6.out.setCell (p := ⟨w.heap.size, 0, none⟩) (Nat.le_refl _) (.int .i64 cnt)).setCell (p := ⟨w.heap.size, 1, none⟩) (Nat.le_refl _) (.slice Q 0 d))
            have ME := Lib.hid (((M6.out.far (g := w.heap.size) (by omega) 0 (.int .i64 cnt)).far (g := w.heap.size) (by omega) 1 (.slice Q 0 d)).mono (b2 := w.heap.size) (by omega))
            clear C6 hf ht
            go_wp2_with fail
            obtain ⟨w9, hw9⟩ : ∃ z, (w6.setCell ⟨w.heap.size, 0, none⟩ (.int .i64 cnt)).setCell ⟨w.heap.size, 1, none⟩ (.slice Q 0 d) = z := ⟨_, rfl⟩
            rw [hw9] at CE BE ME ⊢
            have k0 := CE.out.cell 0 rfl
            have k1 := CE.out.cell 1 rfl
            exact bodyPost_ret (v := .tuple #[.agg #[.int .i64 cnt, .slice Q 0 d], .bool true]) (by simp [results, Tryd.results5, go_sem, k0, k1]) rfl ⟨cnt, rows, true, Q, d, vs, by rw [HRL.out], by rw [HRL.out]; exact ME.out, R.out, BE.out⟩
          · have R := Lib.hid (RD.out.no (fun _ => ht))
            have hq : ((frText cnt rows).toList == s.toList) = false := by unfold frText; rw [hf, if_pos rfl]; exact (Lib.bytes_beq_false_iff _ _).2 ht
            have CE := Lib.hid ((C6.set 0 (.int .i64 0) (by simp)).set 1 (.slice none 0 0) (by simp))
            have BE := Lib.hid ((B6.out.setCell (p := ⟨w.heap.size, 0, none⟩) (Nat.le_refl _) (.int .i64 0)).setCell (p := ⟨w.heap.size, 1, none⟩) (Nat.le_refl _) (.slice none 0 0))
            clear C6 hf ht h0c h1c
            go_wp2_with fail
            obtain ⟨w9, hw9⟩ : ∃ z, (w6.setCell ⟨w.heap.size, 0, none⟩ (.int .i64 0)).setCell ⟨w.heap.size, 1, none⟩ (.slice none 0 0) = z := ⟨_, rfl⟩
            rw [hw9] at CE BE ⊢
            have k0 := CE.out.cell 0 rfl
            have k1 := CE.out.cell 1 rfl
            exact bodyPost_ret (v := .tuple #[.agg #[.int .i64 0, .slice none 0 0], .bool false]) (by simp [results, Tryd.results5, go_sem, k0, k1]) rfl ⟨0, [], false, none, 0, [], rfl, ownM_nil _ _, R.out, BE.out⟩
    · have hK1 : 0 < K := Nat.pos_of_ne_zero hK0
      go_wp2_with fail
      go_loopw [35] (fun t wr => ∃ (k : Nat) (Q : Option Addr) (d : Nat) (vs : List Value) (rows : List (List Int)), k ≤ K ∧ t = .int .i64 k ∧ rows.length = k ∧ Cs wr (w.heap.size + 2) [.int .i64 cnt, .slice Q k d] ∧ OwnM wr (w.heap.size + 3) Q k d vs rows ∧ Cs wr w.heap.size [.int .i64 0, .slice none 0 0] ∧ Cs wr (w.heap.size + 1) ((h0 :: tl).map Value.string) ∧ (∀ n es, FrOk n es → frT n (es.map erow) = s → rows = (es.take k).map erow) ∧ w.heap.size + 3 ≤ wr.heap.size ∧ Below w.heap.size w wr) (fun t _ => K - (intOf t).toNat)
      case atStart => exact ⟨0, none, 0, [], [], Nat.zero_le _, rfl, rfl, F5.out, ownM_nil _ _, C5.out, CW5.out, fun _ _ _ _ => rfl, by rw [show (w4.setCell ⟨w.heap.size + 2, 0, none⟩ (.int .i64 cnt)).heap.size = w4.heap.size by simp [World.setCell]]; exact sz5, B5.out⟩
      case round =>
        obtain ⟨k, Q, d, vs, rows, hk, rfl, hrl, hF, hM, hC, hW, hP, hz, hB⟩ := hrel
        have FR5 := Lib.hid hF
        have MR := Lib.hid hM
        have CR := Lib.hid hC
        have WR := Lib.hid hW
        have PR := Lib.hid hP
        have BR := Lib.hid hB
        clear hF hM hC hW hP hB
        by_cases hlt : k < K
        · have hda := decide_eq_true (show (k : Int) < (K : Int) by omega)
          obtain ⟨wd, hwd⟩ : ∃ wd, tl[k]? = some wd := ⟨_, List.getElem?_eq_getElem (by omega)⟩
          have cw := WR.out.cell (k + 1) (v := .string wd) (by simp [hwd])
          rw [Nat.add_comm k 1] at cw
          obtain ⟨m2, hm2⟩ := (L.below BR.out).mx
          have wd10 := HS.out wd (by simp [List.mem_of_getElem? hwd])
          have CT0 := Tryd.strings_Cut wd ⟨#[62]⟩ m2 wr (by omega) hm2
          obtain ⟨ca, cb⟩ := cut_size wd ⟨#[62]⟩
          have NX := Lib.hid (show ∀ n es, FrOk n es → frT n (es.map erow) = s → ∃ p : Nat × Nat, es[k]? = some p ∧ p.1 ≤ 9 ∧ p.2 ≤ 9 ∧ (⟨(Lib.cut wd.data.toList (⟨#[62]⟩ : ByteArray).data.toList).1.toArray⟩ : ByteArray) = decT p.1 ∧ (⟨(Lib.cut wd.data.toList (⟨#[62]⟩ : ByteArray).data.toList).2.1.toArray⟩ : ByteArray) = decT p.2 from fun n es ok e => by
            obtain ⟨e1, e2⟩ := FR.out n es ok e
            injection e2 with e2 e3
            obtain ⟨p, hp⟩ : ∃ p, es[k]? = some p := ⟨_, List.getElem?_eq_getElem (by omega)⟩
            have n9 := ok.nine p (List.mem_of_getElem? hp)
            have : wd = wB p := by
              have : (es.map wB)[k]? = some wd := by rw [← e3]; exact hwd
              rw [List.getElem?_map, hp] at this
              simpa using this.symm
            rw [this]
            exact ⟨p, hp, n9.1, n9.2, cut_wB n9.1 n9.2⟩)
          obtain ⟨xa, hxa⟩ : ∃ x, (⟨(Lib.cut wd.data.toList (⟨#[62]⟩ : ByteArray).data.toList).1.toArray⟩ : ByteArray) = x := ⟨_, rfl⟩
          obtain ⟨xb, hxb⟩ : ∃ x, (⟨(Lib.cut wd.data.toList (⟨#[62]⟩ : ByteArray).data.toList).2.1.toArray⟩ : ByteArray) = x := ⟨_, rfl⟩
          obtain ⟨xc, hxc⟩ : ∃ x, (Lib.cut wd.data.toList (⟨#[62]⟩ : ByteArray).data.toList).2.2 = x := ⟨_, rfl⟩
          rw [hxa, hxb, hxc] at CT0
          rw [hxa, hxb] at NX
          rw [hxa] at ca
          rw [hxb] at cb
          have CT := Lib.hid CT0
          clear CT0 hxa hxb hxc hm2 hwd
          go_wp2_with fail
          refine CT.out.mono ?_
          rintro e wq ⟨rfl, hq⟩
          have bq : Below wr.heap.size wr wq := by obtain ⟨q, rfl⟩ := hq; exact below_drewN (Below.refl _ _) q
          have B1 := Lib.hid (bel_trans BR.out bq)
          have F1 := Lib.hid (FR5.out.below bq)
          have M1 := Lib.hid (MR.out.below bq)
          have C1 := Lib.hid (CR.out.below bq)
          have W1 := Lib.hid (WR.out.below bq)
          have s1 : w.heap.size + 3 ≤ wq.heap.size := by have := bq.size; omega
          clear bq hq cw CT FR5 MR CR WR BR
          go_wp2_with fail
          refine (readNum_any xa (by omega) wq (L.below B1.out)).mono ?_
          rintro e w7 ⟨x, bx, rfl, x0, x1, hx, b7⟩
          have HX := Lib.hid hx
          have B2 := Lib.hid (bel_trans B1.out b7)
          have F2 := Lib.hid (F1.out.below b7)
          have M2 := Lib.hid (M1.out.below b7)
          have C2 := Lib.hid (C1.out.below b7)
          have W2 := Lib.hid (W1.out.below b7)
          have s2 : w.heap.size + 3 ≤ w7.heap.size := by have := b7.size; omega
          clear hx b7 B1 F1 M1 C1 W1
          go_wp2_with fail
          refine (readNum_any xb (by omega) w7 (L.below B2.out)).mono ?_
          rintro e w8 ⟨y, by_, rfl, y0, y1, hy, b8⟩
          have HY := Lib.hid hy
          have B3 := Lib.hid (bel_trans B2.out b8)
          have F3 := Lib.hid (F2.out.below b8)
          have M3 := Lib.hid (M2.out.below b8)
          have C3 := Lib.hid (C2.out.below b8)
          have W3 := Lib.hid (W2.out.below b8)
          have s3 : w.heap.size + 3 ≤ w8.heap.size := by have := b8.size; omega
          clear hy b8 B2 F2 M2 C2 W2
          have bl := bel_alloc w8 (.cells #[.int .i64 x, .int .i64 y] 2)
          have ROW0 := (show OwnI (w8.alloc (.cells #[.int .i64 x, .int .i64 y] 2)) w8.heap.size (some ⟨w8.heap.size, 0, none⟩) 2 2 [x, y] from ownI_row w8 [x, y] (by intro z hz; simp at hz; rcases hz with rfl | rfl <;> exact WalkArith.wf_i64 (by omega)) (by simp))
          have M8 := Lib.hid (M3.out.below bl)
          have F8 := Lib.hid (F3.out.below bl)
          have C8 := Lib.hid (C3.out.below bl)
          have W8 := Lib.hid (W3.out.below bl)
          have B8 := Lib.hid (bel_trans B3.out bl)
          have AP := Lib.hid (apart_new (base := 0) (fun v hv g' hg' => (M3.out.blocks v hv g' hg').2) ROW0)
          have ROW := Lib.hid (ROW0.mono (b2 := w.heap.size + 3) s3)
          have sz8 : w.heap.size + 3 ≤ (w8.alloc (.cells #[.int .i64 x, .int .i64 y] 2)).heap.size := by simp; omega
          have SZ8 := Lib.hid (show (w8.alloc (.cells #[.int .i64 x, .int .i64 y] 2)).heap.size = w8.heap.size + 1 by simp)
          have fc1 := F3.out.cell 1 rfl
          have hes : k ≤ 1099511627776 := by omega
          clear ROW0 bl
          go_wp2_with (at_builtin; refine app_row (w8.alloc (.cells #[.int .i64 x, .int .i64 y] 2)) rfl _ _ rfl (w.heap.size + 3) Q k d vs rows rfl M8.out (some ⟨w8.heap.size, 0, none⟩) 2 2 [x, y] ROW.out AP.out (by rw [SZ8.out]; rfl) hes sz8 ?_; intro Q' d' w9 p1 p2; have M9 := Lib.hid p1; have F9 := Lib.hid (F8.out.kept p2 (fun e => by have := (M8.out.block _ e.symm).1; omega)); have C9 := Lib.hid (C8.out.kept p2 (fun e => by have := (M8.out.block _ e.symm).1; omega)); have W9 := Lib.hid (W8.out.kept p2 (fun e => by have := (M8.out.block _ e.symm).1; omega)); have B9 := Lib.hid (B8.out.grown p2 (by omega) (fun r hr => by have := (M8.out.block r hr).1; omega)); have s9 : w.heap.size + 3 ≤ w9.heap.size := Nat.le_trans sz8 p2.size; have fd1 := F9.out.cell 1 rfl; have fd2 := F9.out.free 1 rfl; clear p1 p2)
          have FF := Lib.hid (F9.out.set 1 (.slice Q' (k + 1) d') (by simp))
          have MF := Lib.hid (M9.out.far (g := w.heap.size + 2) (by omega) 1 (.slice Q' (k + 1) d'))
          have CF := Lib.hid (C9.out.far (g' := w.heap.size + 2) (by omega) 1 (.slice Q' (k + 1) d'))
          have WF := Lib.hid (W9.out.far (g' := w.heap.size + 2) (by omega) 1 (.slice Q' (k + 1) d'))
          have BF := Lib.hid (B9.out.setCell (p := ⟨w.heap.size + 2, 1, none⟩) (show w.heap.size ≤ w.heap.size + 2 by omega) (.slice Q' (k + 1) d'))
          have PF := Lib.hid (show ∀ n es, FrOk n es → frT n (es.map erow) = s → rows ++ [[x, y]] = (es.take (k + 1)).map erow from fun n es ok e => by
            obtain ⟨p, hp, p1, p2, e1, e2⟩ := NX.out n es ok e
            rw [PR.out n es ok e, take_snoc' hp, List.map_append, HX.out p.1 (by omega) e1, HY.out p.2 (by omega) e2]
            rfl)
          go_roundw
          case rel => exact ⟨k + 1, Q', d', _, rows ++ [[x, y]], by omega, by go_num, by simp [hrl], FF.out, MF.out, CF.out, WF.out, PF.out, by simpa [World.setCell] using s9, BF.out⟩
          case measure => simp [intOf]; omega
        · obtain rfl : K = k := by omega
          have hda := decide_eq_false (show ¬ (K : Int) < (K : Int) by omega)
          have QM := Lib.hid (MR.out.rws)
          have HRL := Lib.hid hrl
          have FA := Lib.hid (frameText_any cnt rows Q K d wr QM.out (by omega))
          have f0 := FR5.out.cell 0 rfl
          have f1 := FR5.out.cell 1 rfl
          go_wp2_with fail
          refine FA.out.mono ?_
          rintro e w6 ⟨rfl, b6⟩
          have B6 := Lib.hid (bel_trans BR.out b6)
          have C6 := CR.out.below b6
          have F6 := FR5.out.below b6
          have M6 := Lib.hid (MR.out.below b6)
          have g0 := C6.cell 0 rfl
          have g1 := C6.cell 1 rfl
          have g0f := C6.free 0 rfl
          have g1f := C6.free 1 rfl
          have h0c := F6.cell 0 rfl
          have h1c := F6.cell 1 rfl
          have RD := Lib.hid (show Reads s cnt rows from fun n es ok e => by
            obtain ⟨e1, e2⟩ := FR.out n es ok e
            injection e2 with e2 e3
            refine ⟨HCNT.out n (by have := ok.n10; omega) e2, ?_⟩
            rw [PR.out n es ok e, ← e1, List.take_length])
          clear b6 f0 f1 FA F6
          cases hf : frB cnt rows
          · have R := Lib.hid (RD.out.no (fun h => by rw [hf] at h; cases h))
            have CE := Lib.hid ((C6.set 0 (.int .i64 0) (by simp)).set 1 (.slice none 0 0) (by simp))
            have BE := Lib.hid ((B6.out.setCell (p := ⟨w.heap.size, 0, none⟩) (Nat.le_refl _) (.int .i64 0)).setCell (p := ⟨w.heap.size, 1, none⟩) (Nat.le_refl _) (.slice none 0 0))
            clear C6 hf h0c h1c
            go_wp2_with fail
            obtain ⟨w9, hw9⟩ : ∃ z, (w6.setCell ⟨w.heap.size, 0, none⟩ (.int .i64 0)).setCell ⟨w.heap.size, 1, none⟩ (.slice none 0 0) = z := ⟨_, rfl⟩
            rw [hw9] at CE BE ⊢
            have k0 := CE.out.cell 0 rfl
            have k1 := CE.out.cell 1 rfl
            exact bodyPost_ret (v := .tuple #[.agg #[.int .i64 0, .slice none 0 0], .bool false]) (by simp [results, Tryd.results5, go_sem, k0, k1]) rfl ⟨0, [], false, none, 0, [], rfl, ownM_nil _ _, R.out, BE.out⟩
          · by_cases ht : frT cnt rows = s
            · have R := Lib.hid (Reads.yes hf ht)
              have hq : ((frText cnt rows).toList == s.toList) = true := by unfold frText; rw [hf, if_pos rfl, ht]; simp
              have CE := Lib.hid ((C6.set 0 (.int .i64 cnt) (by simp)).set 1 (.slice Q K d) (by simp))
              have BE := Lib.hid ((B6.out.setCell (p := ⟨w.heap.size, 0, none⟩) (Nat.le_refl _) (.int .i64 cnt)).setCell (p := ⟨w.heap.size, 1, none⟩) (Nat.le_refl _) (.slice Q K d))
              have ME := Lib.hid (((M6.out.far (g := w.heap.size) (by omega) 0 (.int .i64 cnt)).far (g := w.heap.size) (by omega) 1 (.slice Q K d)).mono (b2 := w.heap.size) (by omega))
              clear C6 hf ht
              go_wp2_with fail
              obtain ⟨w9, hw9⟩ : ∃ z, (w6.setCell ⟨w.heap.size, 0, none⟩ (.int .i64 cnt)).setCell ⟨w.heap.size, 1, none⟩ (.slice Q K d) = z := ⟨_, rfl⟩
              rw [hw9] at CE BE ME ⊢
              have k0 := CE.out.cell 0 rfl
              have k1 := CE.out.cell 1 rfl
              exact bodyPost_ret (v := .tuple #[.agg #[.int .i64 cnt, .slice Q K d], .bool true]) (by simp [results, Tryd.results5, go_sem, k0, k1]) rfl ⟨cnt, rows, true, Q, d, vs, by rw [HRL.out], by rw [HRL.out]; exact ME.out, R.out, BE.out⟩
            · have R := Lib.hid (RD.out.no (fun _ => ht))
              have hq : ((frText cnt rows).toList == s.toList) = false := by unfold frText; rw [hf, if_pos rfl]; exact (Lib.bytes_beq_false_iff _ _).2 ht
              have CE := Lib.hid ((C6.set 0 (.int .i64 0) (by simp)).set 1 (.slice none 0 0) (by simp))
              have BE := Lib.hid ((B6.out.setCell (p := ⟨w.heap.size, 0, none⟩) (Nat.le_refl _) (.int .i64 0)).setCell (p := ⟨w.heap.size, 1, none⟩) (Nat.le_refl _) (.slice none 0 0))
              clear C6 hf ht h0c h1c
              go_wp2_with fail
              obtain ⟨w9, hw9⟩ : ∃ z, (w6.setCell ⟨w.heap.size, 0, none⟩ (.int .i64 0)).setCell ⟨w.heap.size, 1, none⟩ (.slice none 0 0) = z := ⟨_, rfl⟩
              rw [hw9] at CE BE ⊢
              have k0 := CE.out.cell 0 rfl
              have k1 := CE.out.cell 1 rfl
              exact bodyPost_ret (v := .tuple #[.agg #[.int .i64 0, .slice none 0 0], .bool false]) (by simp [results, Tryd.results5, go_sem, k0, k1]) rfl ⟨0, [], false, none, 0, [], rfl, ownM_nil _ _, R.out, BE.out⟩
end Go.Proofs.YteehbnanjgmliaaDoor
