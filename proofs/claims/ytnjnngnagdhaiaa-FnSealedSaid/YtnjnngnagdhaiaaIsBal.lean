/- Whether something is a ballot: the program and the model. -/
import Derived.Test.YtnjnngnagdhaiaaBal2
namespace Go.Proofs.Ytnjnngnagdhaiaa
set_option linter.unusedVariables false
set_option maxRecDepth 100000
open Go.RowKit
def bitB (s : Int) (p : Bp) : Bool := bpB s p.ms p.cs p.as_
def noBp : Bp := ⟨[], [], []⟩
/-- Are the first k proofs those for their seals? -/
def bitsB (ss : List Int) (ps : List Bp) (k : Nat) : Bool := (List.range k).all fun i => bitB (ss.getD i 0) (ps.getD i noBp)
theorem bitsB_succ {ss : List Int} {ps : List Bp} {k : Nat} {s : Int} {p : Bp} (hs : ss[k]? = some s) (hp : ps[k]? = some p) : bitsB ss ps (k + 1) = (bitsB ss ps k && bitB s p) := by
  unfold bitsB
  rw [List.range_succ, List.all_append]
  simp [List.getD_eq_getElem?_getD, hs, hp]
theorem bitsB_no {ss : List Int} {ps : List Bp} {k n : Nat} {s : Int} {p : Bp} (hs : ss[k]? = some s) (hp : ps[k]? = some p) (hk : k < n) (hb : bitB s p = false) : bitsB ss ps n = false := by
  unfold bitsB
  rw [List.all_eq_false]
  exact ⟨k, List.mem_range.2 hk, by simp [List.getD_eq_getElem?_getD, hs, hp, hb]⟩
def prodM (ss : List Int) : Int := ss.foldl (fun o s => mm o s) 1
theorem prodM_bd (ss : List Int) : 0 ≤ prodM ss ∧ prodM ss < 1000000007 := foldl_inv (fun o => 0 ≤ o ∧ o < 1000000007) (fun o z => ⟨mm_lo _ _, mm_hi _ _⟩) _ _ (by decide)
theorem prodM_snoc (ss : List Int) (s : Int) : prodM (ss ++ [s]) = mm (prodM ss) s := by simp [prodM]
theorem bit_seal {s : Int} {p : Bp} (h : bitB s p = true) : sealB s = true := by
  unfold bitB bpB bpPre at h
  simp only [Bool.and_eq_true] at h
  exact h.1.1.1.1.1.1
def balB (ss : List Int) (ps : List Bp) (key : Int) : Bool := decide (ss.length = 3) && decide (ps.length = 3) && expB key && bitsB ss ps 3 && (prodM ss == sealO 1 key)
theorem bits_seals {ss : List Int} {ps : List Bp} (hl : ss.length = 3) (hp : ps.length = 3) (h : bitsB ss ps 3 = true) : ∀ z ∈ ss, sealB z = true := by
  intro z hz
  obtain ⟨i, hi, rfl⟩ := List.getElem_of_mem hz
  unfold bitsB at h
  have := List.all_eq_true.1 h i (List.mem_range.2 (by omega))
  rw [List.getD_eq_getElem?_getD, List.getElem?_eq_getElem hi] at this
  exact bit_seal this
theorem join3 {ss : List Int} (hl : ss.length = 3) : joinS ss [1, 1, 1] = prodM ss := by
  obtain ⟨a, b, c, rfl⟩ : ∃ a b c, ss = [a, b, c] := by
    match ss, hl with
    | [a, b, c], _ => exact ⟨a, b, c, rfl⟩
  have e : ∀ o s : Int, mm o (pw s 1) = mm o s := fun o s => by
    unfold mm pw
    rw [Int.pow_succ, Int.pow_zero, Int.one_mul, mul_emod_r]
  show joinSS (joinSS (joinSS 1 (a, 1)) (b, 1)) (c, 1) = mm (mm (mm 1 a) b) c
  show mm (mm (mm 1 (pw a 1)) (pw b 1)) (pw c 1) = _
  rw [e, e, e]
set_option maxHeartbeats 1000000 in
theorem implIsBallot_any (A : Option Addr) (n c : Nat) (ss : List Int) (B : Option Addr) (m d : Nat) (ps : List Bp) (key : Int) (w : World) (h : Ints .i64 w A n c ss) (k : Bps w B m d ps) :
    Calls Try.prog 28 #[.agg #[.slice A n c, .slice B m d, .int .i64 key]] w fun e w' => e = .returned (.bool (balB ss ps key)) ∧ Below w.heap.size w w' := by
  have C0 := Cs.new w [.slice A n c, .slice B m d, .int .i64 key] 48
  have b0 := bel_alloc w (.cells [.slice A n c, .slice B m d, .int .i64 key].toArray 48)
  have hl := h.1
  have kl := k.1
  have hn := h.short
  have hm := k.short
  have q0a := C0.cell 0 rfl
  have q1a := C0.cell 1 rfl
  have q2a := C0.cell 2 rfl
  have lta := C0.1
  by_cases e1 : n = 3
  · by_cases e2 : m = 3
    · cases ek : expB key
      · have EK := Lib.hid ek
        have R : Hid (balB ss ps key = false) := by show _ = _; simp [balB, ek]
        clear ek
        subst e1
        subst e2
        go_enter Try.func28, Try.ntmps28
        go_wp2_with fail
        refine (isExponent_any key _).mono ?_
        rintro e w1 ⟨rfl, rfl⟩
        rw [EK.out]
        go_wp2_with fail
        go_ret
        exact ⟨ret_bool R.out.symm, b0⟩
      · have EK := Lib.hid ek
        have bk := expB_true ek
        have RB : Hid (balB ss ps key = (bitsB ss ps 3 && (prodM ss == sealO 1 key))) := by show _ = _; unfold balB; rw [ek, hl, kl, e1, e2]; simp
        have HL := Lib.hid hl
        have KL := Lib.hid kl
        clear ek hl kl
        subst e1
        subst e2
        obtain ⟨w0, hw0⟩ : ∃ w0, w.alloc (.cells #[.slice A 3 c, .slice B 3 d, .int .i64 key] 48) = w0 := ⟨_, rfl⟩
        have C1 : Cs w0 w.heap.size [.slice A 3 c, .slice B 3 d, .int .i64 key] := hw0 ▸ C0
        have b1 : Below w.heap.size w w0 := hw0 ▸ b0
        have HW := Lib.hid hw0
        clear hw0 C0 b0 q0a q1a q2a lta
        go_enter Try.func28, Try.ntmps28
        go_wp2_with fail
        rw [show w.alloc (.cells #[.slice A 3 c, .slice B 3 d, .int .i64 key] 48) = w0 from HW.out]
        refine (isExponent_any key _).mono ?_
        rintro e w1 ⟨rfl, rfl⟩
        rw [EK.out]
        have q0a := C1.cell 0 rfl
        have q1a := C1.cell 1 rfl
        have q2a := C1.cell 2 rfl
        have lta := C1.1
        have bsx := b1.size
        go_wp2_with fail
        go_loopw [3, 25] (fun t i wr => ∃ (j : Nat), j ≤ 3 ∧ i = .int .i64 j ∧ t = .int .i64 (prodM (ss.take j)) ∧ bitsB ss ps j = true ∧ Below w0.heap.size w0 wr) (fun _ i _ => 3 - (intOf i).toNat)
        case atStart => exact ⟨0, by omega, rfl, rfl, rfl, Below.refl _ _⟩
        case round =>
          obtain ⟨j, hj, rfl, rfl, hbits, hbel⟩ := hrel
          have HB := Lib.hid hbits
          have br := b1.trans (hbel.mono bsx)
          have C2 := C1.below hbel
          have q0b := C2.cell 0 rfl
          have q1b := C2.cell 1 rfl
          have q2b := C2.cell 2 rfl
          have ltb := C2.1
          have bp := prodM_bd (ss.take j)
          obtain ⟨P, hP⟩ : ∃ x, prodM (ss.take j) = x := ⟨_, rfl⟩
          rw [hP] at bp ⊢
          have HPP := Lib.hid hP
          clear hbits q0a q1a q2a lta hP
          by_cases hlt : j < 3
          · obtain ⟨bs, os, s, rfl, hbs, cs, s1, s2, hs⟩ := (h.below br).at hlt
            obtain ⟨bq, oq, p, rfl, hbq, ⟨A1, n1, c1, B1, m1, d1, C1', k1, f1, q0, q1, q2, i1, i2, i3⟩, hp⟩ := (k.below br).at hlt
            have IB := Lib.hid (isBitProof_any s A1 n1 c1 p.ms B1 m1 d1 p.cs C1' k1 f1 p.as_ wr i1 i2 i3)
            have IB2 := Lib.hid (show Calls Try.prog 16 #[.int .i64 s, .agg #[.slice A1 n1 c1, .slice B1 m1 d1, .slice C1' k1 f1]] wr fun e w' => e = .returned (.bool (bitB s p)) ∧ Below wr.heap.size wr w' from IB.out)
            clear i1 i2 i3 IB
            cases hb : bitB s p
            · have HBB := Lib.hid hb
              have R : Hid (balB ss ps key = false) := by show _ = _; rw [RB.out, bitsB_no hs.out hp.out hlt hb]; rfl
              clear hb
              go_wp2_with fail
              refine IB2.out.mono ?_
              rintro e w2 ⟨rfl, b2⟩
              rw [HBB.out]
              have bel2 := bel_trans br b2
              go_wp2_with fail
              go_ret
              exact ⟨ret_bool R.out.symm, bel2⟩
            · have HBB := Lib.hid hb
              have sb := sealB_true (bit_seal hb)
              have BN : Hid (bitsB ss ps (j + 1) = true) := by show _ = _; rw [bitsB_succ hs.out hp.out, HB.out, hb]; rfl
              have m0 : 0 ≤ P * s := Int.mul_nonneg bp.1 (by omega)
              have m1' : P * s ≤ 1000000007 * 1000000007 := Int.mul_le_mul (by omega) (by omega) (by omega) (by omega)
              have ew : IntKind.i64.wrap (P * s) = P * s := IntWalk.i64_in _ (by omega)
              obtain ⟨r, hr⟩ : ∃ r, mm P s = r := ⟨_, rfl⟩
              have er : (P * s).tmod 1000000007 = r := by rw [Int.tmod_eq_emod_of_nonneg m0]; exact hr
              have PN : Hid (prodM (ss.take (j + 1)) = r) := by show _ = _; rw [take_snoc' hs.out, prodM_snoc, HPP.out, hr]
              clear hb hr
              go_wp2_with fail
              refine IB2.out.mono ?_
              rintro e w2 ⟨rfl, b2⟩
              rw [HBB.out]
              have bel2 := bel_trans hbel b2
              go_wp2_with fail
              go_roundw
              case rel => exact ⟨j + 1, by omega, by go_num, by rw [PN.out], BN.out, bel2⟩
              case measure => simp [intOf]; omega
          · obtain rfl : j = 3 := by omega
            have R : Hid (balB ss ps key = (P == sealO 1 key)) := by
              show _ = _
              rw [RB.out, HB.out, ← HPP.out, List.take_of_length_le (by rw [HL.out]; omega)]
              rfl
            go_wp2_with fail
            refine (sealed_any 1 key _ (by omega) (by omega) (by omega) (by omega)).mono ?_
            rintro e w2 ⟨rfl, rfl⟩
            go_wp2_with fail
            go_ret
            exact ⟨ret_bool R.out.symm, br⟩
    · have R : Hid (balB ss ps key = false) := by show _ = _; simp [balB, kl, e2]
      subst e1
      go_enter Try.func28, Try.ntmps28
      go_wp2_with fail
      go_ret
      exact ⟨ret_bool R.out.symm, b0⟩
  · have R : Hid (balB ss ps key = false) := by show _ = _; simp [balB, hl, e1]
    go_enter Try.func28, Try.ntmps28
    go_wp2_with fail
    go_ret
    exact ⟨ret_bool R.out.symm, b0⟩
set_option maxHeartbeats 1000000 in
theorem l09Ballot_any (g : Nat) (A : Option Addr) (n c : Nat) (ss : List Int) (B : Option Addr) (m d : Nat) (ps : List Bp) (key : Int) (w : World) (C0 : Cs w g [.slice A n c, .slice B m d, .int .i64 key]) (h : Ints .i64 w A n c ss) (k : Bps w B m d ps) :
    Calls Try.prog 78 #[.pointer (some ⟨g, 0, none⟩)] w fun e w' => e = .returned (.bool (balB ss ps key)) ∧ Below w.heap.size w w' := by
  have hl := h.1
  have kl := k.1
  have hn := h.short
  have hm := k.short
  have q0a := C0.cell 0 rfl
  have q1a := C0.cell 1 rfl
  have q2a := C0.cell 2 rfl
  have lta := C0.1
  cases hs : allB ss 3 sealB
  · have R : Hid (balB ss ps key = false) := by
      show _ = _
      by_cases e1 : ss.length = 3
      · by_cases e2 : ps.length = 3
        · cases hb : bitsB ss ps 3
          · simp [balB, hb]
          · exfalso
            have := allB_true.2 ⟨show (ss.length : Int) = 3 by omega, bits_seals e1 e2 hb⟩
            rw [hs] at this
            cases this
        · simp [balB, e2]
      · simp [balB, e1]
    have HS := Lib.hid hs
    clear hs
    go_enter Try.func78, Try.ntmps78
    go_wp2_with fail
    refine (l09Seals_any A n c ss 3 _ h).mono ?_
    rintro e w1 ⟨rfl, rfl⟩
    rw [HS.out]
    go_wp2_with fail
    go_ret
    exact ⟨ret_bool R.out.symm, Below.refl _ _⟩
  · have HS := Lib.hid hs
    obtain ⟨l3, hsl⟩ := allB_true.1 hs
    have SL := Lib.hid hsl
    have e1 : n = 3 := by omega
    clear hs hsl
    by_cases e2 : m = 3
    · cases ek : expB key
      · have EK := Lib.hid ek
        have R : Hid (balB ss ps key = false) := by show _ = _; simp [balB, ek]
        clear ek l3
        subst e1
        subst e2
        go_enter Try.func78, Try.ntmps78
        go_wp2_with fail
        refine (l09Seals_any A 3 c ss 3 _ h).mono ?_
        rintro e w1 ⟨rfl, rfl⟩
        rw [HS.out]
        go_wp2_with fail
        refine (l09Exponent_any key _).mono ?_
        rintro e w1 ⟨rfl, rfl⟩
        rw [EK.out]
        go_wp2_with fail
        go_ret
        exact ⟨ret_bool R.out.symm, Below.refl _ _⟩
      · have EK := Lib.hid ek
        have bk := expB_true ek
        have RB : Hid (balB ss ps key = (bitsB ss ps 3 && (prodM ss == sealO 1 key))) := by show _ = _; unfold balB; rw [ek, hl, kl, e1, e2]; simp
        have HL := Lib.hid hl
        have KL := Lib.hid kl
        clear ek hl kl l3
        subst e1
        subst e2
        go_enter Try.func78, Try.ntmps78
        go_wp2_with fail
        refine (l09Seals_any A 3 c ss 3 _ h).mono ?_
        rintro e w1 ⟨rfl, rfl⟩
        rw [HS.out]
        go_wp2_with fail
        refine (l09Exponent_any key _).mono ?_
        rintro e w1 ⟨rfl, rfl⟩
        rw [EK.out]
        go_wp2_with fail
        go_loopw [3] (fun i wr => ∃ (j : Nat), j ≤ 3 ∧ i = .int .i64 j ∧ bitsB ss ps j = true ∧ Below w.heap.size w wr) (fun i _ => 3 - (intOf i).toNat)
        case atStart => exact ⟨0, by omega, rfl, rfl, Below.refl _ _⟩
        case round =>
          obtain ⟨j, hj, rfl, hbits, hbel⟩ := hrel
          have HB := Lib.hid hbits
          have C2 := C0.below hbel
          have q0b := C2.cell 0 rfl
          have q1b := C2.cell 1 rfl
          have q2b := C2.cell 2 rfl
          have ltb := C2.1
          clear hbits q0a q1a q2a lta
          by_cases hlt : j < 3
          · obtain ⟨bs, os, s, rfl, hbs, cs, s1, s2, hs⟩ := (h.below hbel).at hlt
            obtain ⟨bq, oq, p, rfl, hbq, ⟨A1, n1, c1, B1, m1, d1, C1', k1, f1, q0, q1, q2, i1, i2, i3⟩, hp⟩ := (k.below hbel).at hlt
            have IB := Lib.hid (fun W (hb : Below wr.heap.size wr W) => show Calls Try.prog 64 #[.int .i64 s, .pointer (some ⟨bq, oq + j * 3, none⟩)] W fun e w' => e = .returned (.bool (bitB s p)) ∧ Below W.heap.size W w' from
              l09Proof_at s bq (oq + j * 3) A1 n1 c1 p.ms B1 m1 d1 p.cs C1' k1 f1 p.as_ W ((hb.cell (p := ⟨bq, oq + j * 3, none⟩) hbq).trans q0) ((hb.cell (p := ⟨bq, oq + j * 3 + 1, none⟩) hbq).trans q1) ((hb.cell (p := ⟨bq, oq + j * 3 + 2, none⟩) hbq).trans q2) (Nat.lt_of_lt_of_le hbq hb.size) (i1.below hb) (i2.below hb) (i3.below hb))
            have SS := Lib.hid (fun (W : World) (bb : Below wr.heap.size wr W) => show W.cell? ⟨g, 0, none⟩ = some (.slice (some ⟨bs, os, none⟩) 3 c) ∧ W.cell? ⟨g, 1, none⟩ = some (.slice (some ⟨bq, oq, none⟩) 3 d) ∧ W.cell? ⟨bs, os + j, none⟩ = some (.int .i64 s) from
              ⟨(bb.cell (p := ⟨g, 0, none⟩) ltb).trans q0b, (bb.cell (p := ⟨g, 1, none⟩) ltb).trans q1b, (bb.cell (p := ⟨bs, os + j, none⟩) hbs).trans cs⟩)
            have s0 := SS.out _ (Below.refl _ _)
            have t0 : Below wr.heap.size wr wr.drew := (Below.refl _ _).drew
            clear i1 i2 i3 q0 q1 q2
            cases hb : bitB s p
            · have HBB := Lib.hid hb
              have R : Hid (balB ss ps key = false) := by show _ = _; rw [RB.out, bitsB_no hs.out hp.out hlt hb]; rfl
              clear hb
              go_wp2_with fail
              go_region_held3 (fun w' => w'.cell? ⟨g, 0, none⟩ = some (.slice (some ⟨bs, os, none⟩) 3 c) ∧ w'.cell? ⟨g, 1, none⟩ = some (.slice (some ⟨bq, oq, none⟩) 3 d) ∧ w'.cell? ⟨bs, os + j, none⟩ = some (.int .i64 s)) (first | exact s0 | exact SS.out _ t0 | exact SS.out _ tw | exact SS.out _ (Below.refl _ _)) (first | (go_at_call 64; refine (IB.out _ (by first | exact t0 | exact Below.refl _ _)).mono ?_; rintro e w5 ⟨rfl, t5⟩; rw [HBB.out]; have tw : Below wr.heap.size wr w5 := ⟨t5.os, t5.tape, t5.output, t5.size, t5.block⟩))
              have bel5 := bel_trans hbel tw
              go_wp2_with fail
              go_ret
              exact ⟨ret_bool R.out.symm, bel5⟩
            · have HBB := Lib.hid hb
              have BN : Hid (bitsB ss ps (j + 1) = true) := by show _ = _; rw [bitsB_succ hs.out hp.out, HB.out, hb]; rfl
              clear hb
              go_wp2_with fail
              go_region_held3 (fun w' => w'.cell? ⟨g, 0, none⟩ = some (.slice (some ⟨bs, os, none⟩) 3 c) ∧ w'.cell? ⟨g, 1, none⟩ = some (.slice (some ⟨bq, oq, none⟩) 3 d) ∧ w'.cell? ⟨bs, os + j, none⟩ = some (.int .i64 s)) (first | exact s0 | exact SS.out _ t0 | exact SS.out _ tw | exact SS.out _ (Below.refl _ _)) (first | (go_at_call 64; refine (IB.out _ (by first | exact t0 | exact Below.refl _ _)).mono ?_; rintro e w5 ⟨rfl, t5⟩; rw [HBB.out]; have tw : Below wr.heap.size wr w5 := ⟨t5.os, t5.tape, t5.output, t5.size, t5.block⟩))
              have bel5 := bel_trans hbel tw
              go_wp2_with fail
              go_roundw
              case rel => exact ⟨j + 1, by omega, by go_num, BN.out, bel5⟩
              case measure => simp [intOf]; omega
          · obtain rfl : j = 3 := by omega
            have R : Hid (balB ss ps key = (prodM ss == sealO 1 key)) := by
              show _ = _
              rw [RB.out, HB.out]
              rfl
            have J3 := Lib.hid (join3 HL.out)
            have ONE : Hid (∀ z ∈ [(1 : Int), 1, 1], weightB z = true) := by intro z hz; simp at hz; subst hz; decide
            have SS := Lib.hid (fun (W : World) (bb : Below wr.heap.size wr W) => show W.cell? ⟨g, 0, none⟩ = some (.slice A 3 c) ∧ W.cell? ⟨g, 2, none⟩ = some (.int .i64 key) from
              ⟨(bb.cell (p := ⟨g, 0, none⟩) ltb).trans q0b, (bb.cell (p := ⟨g, 2, none⟩) ltb).trans q2b⟩)
            have s0 := SS.out _ (Below.refl _ _)
            have t0 : Below wr.heap.size wr wr.drew := (Below.refl _ _).drew
            have HI := Lib.hid (h.below hbel)
            have t1 := bel_alloc wr (.cells [.int .i64 1, .int .i64 1, .int .i64 1].toArray 2)
            have t1d : Below wr.heap.size wr (wr.alloc (.cells [.int .i64 1, .int .i64 1, .int .i64 1].toArray 2)).drew := t1.drew
            have N1 := Lib.hid ((Cs.new wr [.int .i64 1, .int .i64 1, .int .i64 1] 2).ints (n := 3) [1, 1, 1] rfl rfl (by decide) (by intro z hz; simp at hz; subst hz; decide))
            have N1d : Hid (Ints .i64 (wr.alloc (.cells [.int .i64 1, .int .i64 1, .int .i64 1].toArray 2)).drew (some ⟨wr.heap.size, 0, none⟩) 3 3 [1, 1, 1]) := N1.out.below ⟨rfl, rfl, rfl, Nat.le_refl _, fun _ _ => rfl⟩
            have H1d := Lib.hid (HI.out.below t1d)
            go_wp2_with fail
            go_region_held3 (fun w' => w'.cell? ⟨g, 0, none⟩ = some (.slice A 3 c) ∧ w'.cell? ⟨g, 2, none⟩ = some (.int .i64 key)) (first | exact s0 | exact SS.out _ t0 | exact SS.out _ tw | exact SS.out _ t1 | exact SS.out _ t1d) (first | (go_at_call 99; refine (l09Join_any A 3 c ss (some ⟨wr.heap.size, 0, none⟩) 3 [1, 1, 1] _ H1d.out N1d.out SL ONE).mono ?_; rintro e w5 ⟨rfl, t5⟩; rw [J3.out]; have tw : Below wr.heap.size wr w5 := bel_trans t1d t5) | (go_at_call 88; refine (l09Of_any 1 key _ (by omega) (by omega) (by omega) (by omega)).mono ?_; rintro e w6 ⟨rfl, rfl⟩))
            all_goals
              have bel5 := bel_trans hbel tw
              go_wp2_with fail
              go_ret
              exact ⟨ret_bool R.out.symm, bel5⟩
    · have R : Hid (balB ss ps key = false) := by show _ = _; simp [balB, kl, e2]
      subst e1
      go_enter Try.func78, Try.ntmps78
      go_wp2_with fail
      refine (l09Seals_any A 3 c ss 3 _ h).mono ?_
      rintro e w1 ⟨rfl, rfl⟩
      rw [HS.out]
      go_wp2_with fail
      go_ret
      exact ⟨ret_bool R.out.symm, Below.refl _ _⟩
theorem specIsBallot_any (A : Option Addr) (n c : Nat) (ss : List Int) (B : Option Addr) (m d : Nat) (ps : List Bp) (key : Int) (w : World) (h : Ints .i64 w A n c ss) (k : Bps w B m d ps) :
    Calls Try.prog 35 #[.agg #[.slice A n c, .slice B m d, .int .i64 key]] w fun e w' => e = .returned (.bool (balB ss ps key)) ∧ Below w.heap.size w w' := by
  have C0 := Cs.new w [.slice A n c, .slice B m d, .int .i64 key] 48
  have b0 := bel_alloc w (.cells [.slice A n c, .slice B m d, .int .i64 key].toArray 48)
  have K0 := Lib.hid (k.below b0)
  go_enter Try.func35, Try.ntmps35
  go_wp2_with fail
  refine (l09Ballot_any _ A n c ss B m d ps key _ C0 (h.below b0) K0.out).mono ?_
  rintro e w1 ⟨rfl, b1⟩
  go_wp2_with fail
  go_ret
  exact ⟨rfl, bel_trans b0 b1⟩
set_option maxHeartbeats 1000000 in
theorem fnExactIsBallot_walk (w : World) (A : Option Addr) (n c : Nat) (ss : List Int) (B : Option Addr) (m d : Nat) (ps : List Bp) (key : Int) (h : Ints .i64 w A n c ss) (k : Bps w B m d ps) :
    Calls Try.prog 7 #[.agg #[.slice A n c, .slice B m d, .int .i64 key]] w fun e w' => e = .returned (.bool true) ∧ Below w.heap.size w w' := by
  have C0 := Cs.new w [.slice A n c, .slice B m d, .int .i64 key] 60
  have bb := bel_alloc w (.cells [.slice A n c, .slice B m d, .int .i64 key].toArray 60)
  have K0 := Lib.hid (k.below bb)
  go_enter Try.func7, Try.ntmps7
  go_wp2_with fail
  refine (szBallot_any A n c ss B m d ps key 1048576 _ (h.below bb) K0.out (by omega) (by omega)).mono ?_
  rintro e w1 ⟨r, rfl, hr, b1⟩
  replace bb := bel_trans bb (b1)
  replace C0 := C0.below (b1)
  have q0s1 := C0.cell 0 rfl
  have q1s1 := C0.cell 1 rfl
  have q2s1 := C0.cell 2 rfl
  have lts1 := C0.1
  rcases hr with rfl | ⟨r0, r1, r2, r3, r4⟩
  · go_wp2_with fail
    go_ret
    exact ⟨rfl, bb⟩
  have HP := Lib.hid r4
  have qb : (balB ss ps key != balB ss ps key) = false := by simp
  clear r4
  go_wp2_with fail
  refine (toBallot_any A n c ss B m d ps key _ (h.below bb) (k.below bb) r2 r3 HP.out).mono ?_
  rintro e w2 ⟨A2, c2, B2, d2, rfl, i2, k2, b2⟩
  replace bb := bel_trans bb (b2)
  replace C0 := C0.below (b2)
  clear q0s1 q1s1 q2s1 lts1
  have q0s2 := C0.cell 0 rfl
  have q1s2 := C0.cell 1 rfl
  have q2s2 := C0.cell 2 rfl
  have lts2 := C0.1
  go_wp2_with fail
  refine (specIsBallot_any A2 n c2 ss B2 m d2 ps key _ i2 k2).mono ?_
  rintro e w3 ⟨rfl, b3⟩
  replace bb := bel_trans bb (b3)
  replace C0 := C0.below (b3)
  clear q0s2 q1s2 q2s2 lts2
  have q0s3 := C0.cell 0 rfl
  have q1s3 := C0.cell 1 rfl
  have q2s3 := C0.cell 2 rfl
  have lts3 := C0.1
  clear i2 k2
  go_wp2_with fail
  refine (toBallot_any A n c ss B m d ps key _ (h.below bb) (k.below bb) r2 r3 HP.out).mono ?_
  rintro e w4 ⟨A4, c4, B4, d4, rfl, i4, k4, b4⟩
  replace bb := bel_trans bb (b4)
  replace C0 := C0.below (b4)
  clear q0s3 q1s3 q2s3 lts3
  have q0s4 := C0.cell 0 rfl
  have q1s4 := C0.cell 1 rfl
  have q2s4 := C0.cell 2 rfl
  have lts4 := C0.1
  have D0 := Cs.new w4 [.slice A4 n c4, .slice B4 m d4, .int .i64 key] 48
  have bA := bel_alloc w4 (.cells [.slice A4 n c4, .slice B4 m d4, .int .i64 key].toArray 48)
  replace i4 := i4.below bA
  replace k4 := k4.below bA
  replace bb := bel_trans bb bA
  replace C0 := C0.below bA
  go_wp2_with fail
  refine (implIsBallot_any A4 n c4 ss B4 m d4 ps key _ i4 k4).mono ?_
  rintro e w5 ⟨rfl, b5⟩
  replace bb := bel_trans bb (b5)
  replace C0 := C0.below (b5)
  clear q0s4 q1s4 q2s4 lts4
  replace D0 := D0.below (b5)
  have q0s5 := C0.cell 0 rfl
  have q1s5 := C0.cell 1 rfl
  have q2s5 := C0.cell 2 rfl
  have lts5 := C0.1
  have q0t5 := D0.cell 0 rfl
  have q1t5 := D0.cell 1 rfl
  have q2t5 := D0.cell 2 rfl
  have ltt5 := D0.1
  replace i4 := i4.below b5
  replace k4 := k4.below b5
  have SS := Lib.hid (fun (W : World) (hb : Below w5.heap.size w5 W) => show W.cell? ⟨w.heap.size, 0, none⟩ = some (.slice A n c) ∧ W.cell? ⟨w.heap.size, 1, none⟩ = some (.slice B m d) ∧ W.cell? ⟨w.heap.size, 2, none⟩ = some (.int .i64 key) ∧ W.cell? ⟨w4.heap.size, 0, none⟩ = some (.slice A4 n c4) ∧ W.cell? ⟨w4.heap.size, 1, none⟩ = some (.slice B4 m d4) ∧ W.cell? ⟨w4.heap.size, 2, none⟩ = some (.int .i64 key) from
    ⟨(C0.below hb).cell 0 rfl, (C0.below hb).cell 1 rfl, (C0.below hb).cell 2 rfl, (D0.below hb).cell 0 rfl, (D0.below hb).cell 1 rfl, (D0.below hb).cell 2 rfl⟩)
  have s0 := SS.out _ (Below.refl _ _)
  have t0 : Below w5.heap.size w5 w5.drew := (Below.refl _ _).drew
  have TO := Lib.hid (fun (W : World) (hb : Below w5.heap.size w5 W) => toBallot_any A n c ss B m d ps key W ((h.below bb).below hb) ((k.below bb).below hb) r2 r3 HP.out)
  have EQ := Lib.hid (fun (A6 : Option Addr) (c6 : Nat) (B6 : Option Addr) (d6 : Nat) (W : World) (hb : Below w5.heap.size w5 W) (i6 : Ints .i64 W A6 n c6 ss) (k6 : Bps W B6 m d6 ps) => eqBallot_same A4 n c4 ss B4 m d4 ps key A6 c6 B6 d6 W (i4.below hb) (k4.below hb) i6 k6)
  have HBB := Lib.hid bb
  clear i4 k4 C0 D0 bb K0
  go_wp2_with fail
  go_region_held3 (fun w' => w'.cell? ⟨w.heap.size, 0, none⟩ = some (.slice A n c) ∧ w'.cell? ⟨w.heap.size, 1, none⟩ = some (.slice B m d) ∧ w'.cell? ⟨w.heap.size, 2, none⟩ = some (.int .i64 key) ∧ w'.cell? ⟨w4.heap.size, 0, none⟩ = some (.slice A4 n c4) ∧ w'.cell? ⟨w4.heap.size, 1, none⟩ = some (.slice B4 m d4) ∧ w'.cell? ⟨w4.heap.size, 2, none⟩ = some (.int .i64 key)) (first | exact s0 | exact SS.out _ t0 | exact SS.out _ tz | exact SS.out _ tw | exact SS.out _ (Below.refl _ _)) (first
    | (go_at_call 36; refine (TO.out _ (by first | exact t0 | exact Below.refl _ _)).mono ?_; rintro e w6 ⟨A6, c6, B6, d6, rfl, i6, k6, b6⟩; have tw : Below w5.heap.size w5 w6 := ⟨b6.os, b6.tape, b6.output, b6.size, b6.block⟩; have EQ6 := Lib.hid (EQ.out A6 c6 B6 d6 w6 tw i6 k6); clear i6 k6)
    | (go_at_call 37; refine EQ6.out.mono ?_; rintro e w7 ⟨rfl, b7⟩; have tz := bel_trans tw b7))
  have bbz := bel_trans HBB.out tz
  go_wp2_with fail
  go_ret
  exact ⟨rfl, bbz⟩
end Go.Proofs.Ytnjnngnagdhaiaa
