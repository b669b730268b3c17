/- Ballots that are cast, and the count of them: the program and the model. -/
import Derived.Test.YtnjnngnagdhaiaaBals
import Derived.Test.YtnjnngnagdhaiaaStepApp
namespace Go.Proofs.Ytnjnngnagdhaiaa
set_option linter.unusedVariables false
set_option maxRecDepth 100000
open Go.RowKit
set_option maxHeartbeats 1000000 in
theorem l09Ballot_at (g go : Nat) (A : Option Addr) (n c : Nat) (ss : List Int) (B : Option Addr) (m d : Nat) (ps : List Bp) (key : Int) (w : World) (q0a : w.cell? ⟨g, go, none⟩ = some (.slice A n c)) (q1a : w.cell? ⟨g, go + 1, none⟩ = some (.slice B m d)) (q2a : w.cell? ⟨g, go + 2, none⟩ = some (.int .i64 key)) (lta : g < w.heap.size) (h : Ints .i64 w A n c ss) (k : Bps w B m d ps) :
    Calls Try.prog 78 #[.pointer (some ⟨g, go, none⟩)] w fun e w' => e = .returned (.bool (balB ss ps key)) ∧ Below w.heap.size w w' := by
  have hl := h.1
  have kl := k.1
  have hn := h.short
  have hm := k.short
  cases hs : allB ss 3 sealB
  · have R : Hid (balB ss ps key = false) := by
      show _ = _
      by_cases e1 : ss.length = 3
      · by_cases e2 : ps.length = 3
        · cases hb : bitsB ss ps 3
          · simp [balB, hb]
          · exfalso
            have := allB_true.2 ⟨show (ss.length : Int) = 3 by omega, bits_seals e1 e2 hb⟩
            rw [hs] at this
            cases this
        · simp [balB, e2]
      · simp [balB, e1]
    have HS := Lib.hid hs
    clear hs
    go_enter Try.func78, Try.ntmps78
    go_wp2_with fail
    refine (l09Seals_any A n c ss 3 _ h).mono ?_
    rintro e w1 ⟨rfl, rfl⟩
    rw [HS.out]
    go_wp2_with fail
    go_ret
    exact ⟨ret_bool R.out.symm, Below.refl _ _⟩
  · have HS := Lib.hid hs
    obtain ⟨l3, hsl⟩ := allB_true.1 hs
    have SL := Lib.hid hsl
    have e1 : n = 3 := by omega
    clear hs hsl
    by_cases e2 : m = 3
    · cases ek : expB key
      · have EK := Lib.hid ek
        have R : Hid (balB ss ps key = false) := by show _ = _; simp [balB, ek]
        clear ek l3
        subst e1
        subst e2
        go_enter Try.func78, Try.ntmps78
        go_wp2_with fail
        refine (l09Seals_any A 3 c ss 3 _ h).mono ?_
        rintro e w1 ⟨rfl, rfl⟩
        rw [HS.out]
        go_wp2_with fail
        refine (l09Exponent_any key _).mono ?_
        rintro e w1 ⟨rfl, rfl⟩
        rw [EK.out]
        go_wp2_with fail
        go_ret
        exact ⟨ret_bool R.out.symm, Below.refl _ _⟩
      · have EK := Lib.hid ek
        have bk := expB_true ek
        have RB : Hid (balB ss ps key = (bitsB ss ps 3 && (prodM ss == sealO 1 key))) := by show _ = _; unfold balB; rw [ek, hl, kl, e1, e2]; simp
        have HL := Lib.hid hl
        have KL := Lib.hid kl
        clear ek hl kl l3
        subst e1
        subst e2
        go_enter Try.func78, Try.ntmps78
        go_wp2_with fail
        refine (l09Seals_any A 3 c ss 3 _ h).mono ?_
        rintro e w1 ⟨rfl, rfl⟩
        rw [HS.out]
        go_wp2_with fail
        refine (l09Exponent_any key _).mono ?_
        rintro e w1 ⟨rfl, rfl⟩
        rw [EK.out]
        go_wp2_with fail
        go_loopw [3] (fun i wr => ∃ (j : Nat), j ≤ 3 ∧ i = .int .i64 j ∧ bitsB ss ps j = true ∧ Below w.heap.size w wr) (fun i _ => 3 - (intOf i).toNat)
        case atStart => exact ⟨0, by omega, rfl, rfl, Below.refl _ _⟩
        case round =>
          obtain ⟨j, hj, rfl, hbits, hbel⟩ := hrel
          have HB := Lib.hid hbits
          have q0b := (hbel.cell (p := ⟨g, go, none⟩) lta).trans q0a
          have q1b := (hbel.cell (p := ⟨g, go + 1, none⟩) lta).trans q1a
          have q2b := (hbel.cell (p := ⟨g, go + 2, none⟩) lta).trans q2a
          have ltb := Nat.lt_of_lt_of_le lta hbel.size
          clear hbits q0a q1a q2a lta
          by_cases hlt : j < 3
          · obtain ⟨bs, os, s, rfl, hbs, cs, s1, s2, hs⟩ := (h.below hbel).at hlt
            obtain ⟨bq, oq, p, rfl, hbq, ⟨A1, n1, c1, B1, m1, d1, C1', k1, f1, q0, q1, q2, i1, i2, i3⟩, hp⟩ := (k.below hbel).at hlt
            have IB := Lib.hid (fun W (hb : Below wr.heap.size wr W) => show Calls Try.prog 64 #[.int .i64 s, .pointer (some ⟨bq, oq + j * 3, none⟩)] W fun e w' => e = .returned (.bool (bitB s p)) ∧ Below W.heap.size W w' from
              l09Proof_at s bq (oq + j * 3) A1 n1 c1 p.ms B1 m1 d1 p.cs C1' k1 f1 p.as_ W ((hb.cell (p := ⟨bq, oq + j * 3, none⟩) hbq).trans q0) ((hb.cell (p := ⟨bq, oq + j * 3 + 1, none⟩) hbq).trans q1) ((hb.cell (p := ⟨bq, oq + j * 3 + 2, none⟩) hbq).trans q2) (Nat.lt_of_lt_of_le hbq hb.size) (i1.below hb) (i2.below hb) (i3.below hb))
            have SS := Lib.hid (fun (W : World) (bb : Below wr.heap.size wr W) => show W.cell? ⟨g, go, none⟩ = some (.slice (some ⟨bs, os, none⟩) 3 c) ∧ W.cell? ⟨g, go + 1, none⟩ = some (.slice (some ⟨bq, oq, none⟩) 3 d) ∧ W.cell? ⟨bs, os + j, none⟩ = some (.int .i64 s) from
              ⟨(bb.cell (p := ⟨g, go, none⟩) ltb).trans q0b, (bb.cell (p := ⟨g, go + 1, none⟩) ltb).trans q1b, (bb.cell (p := ⟨bs, os + j, none⟩) hbs).trans cs⟩)
            have s0 := SS.out _ (Below.refl _ _)
            have t0 : Below wr.heap.size wr wr.drew := (Below.refl _ _).drew
            clear i1 i2 i3 q0 q1 q2
            cases hb : bitB s p
            · have HBB := Lib.hid hb
              have R : Hid (balB ss ps key = false) := by show _ = _; rw [RB.out, bitsB_no hs.out hp.out hlt hb]; rfl
              clear hb
              go_wp2_with fail
              go_region_held3 (fun w' => w'.cell? ⟨g, go, none⟩ = some (.slice (some ⟨bs, os, none⟩) 3 c) ∧ w'.cell? ⟨g, go + 1, none⟩ = some (.slice (some ⟨bq, oq, none⟩) 3 d) ∧ w'.cell? ⟨bs, os + j, none⟩ = some (.int .i64 s)) (first | exact s0 | exact SS.out _ t0 | exact SS.out _ tw | exact SS.out _ (Below.refl _ _)) (first | (go_at_call 64; refine (IB.out _ (by first | exact t0 | exact Below.refl _ _)).mono ?_; rintro e w5 ⟨rfl, t5⟩; rw [HBB.out]; have tw : Below wr.heap.size wr w5 := ⟨t5.os, t5.tape, t5.output, t5.size, t5.block⟩))
              have bel5 := bel_trans hbel tw
              go_wp2_with fail
              go_ret
              exact ⟨ret_bool R.out.symm, bel5⟩
            · have HBB := Lib.hid hb
              have BN : Hid (bitsB ss ps (j + 1) = true) := by show _ = _; rw [bitsB_succ hs.out hp.out, HB.out, hb]; rfl
              clear hb
              go_wp2_with fail
              go_region_held3 (fun w' => w'.cell? ⟨g, go, none⟩ = some (.slice (some ⟨bs, os, none⟩) 3 c) ∧ w'.cell? ⟨g, go + 1, none⟩ = some (.slice (some ⟨bq, oq, none⟩) 3 d) ∧ w'.cell? ⟨bs, os + j, none⟩ = some (.int .i64 s)) (first | exact s0 | exact SS.out _ t0 | exact SS.out _ tw | exact SS.out _ (Below.refl _ _)) (first | (go_at_call 64; refine (IB.out _ (by first | exact t0 | exact Below.refl _ _)).mono ?_; rintro e w5 ⟨rfl, t5⟩; rw [HBB.out]; have tw : Below wr.heap.size wr w5 := ⟨t5.os, t5.tape, t5.output, t5.size, t5.block⟩))
              have bel5 := bel_trans hbel tw
              go_wp2_with fail
              go_roundw
              case rel => exact ⟨j + 1, by omega, by go_num, BN.out, bel5⟩
              case measure => simp [intOf]; omega
          · obtain rfl : j = 3 := by omega
            have R : Hid (balB ss ps key = (prodM ss == sealO 1 key)) := by
              show _ = _
              rw [RB.out, HB.out]
              rfl
            have J3 := Lib.hid (join3 HL.out)
            have ONE : Hid (∀ z ∈ [(1 : Int), 1, 1], weightB z = true) := by intro z hz; simp at hz; subst hz; decide
            have SS := Lib.hid (fun (W : World) (bb : Below wr.heap.size wr W) => show W.cell? ⟨g, go, none⟩ = some (.slice A 3 c) ∧ W.cell? ⟨g, go + 2, none⟩ = some (.int .i64 key) from
              ⟨(bb.cell (p := ⟨g, go, none⟩) ltb).trans q0b, (bb.cell (p := ⟨g, go + 2, none⟩) ltb).trans q2b⟩)
            have s0 := SS.out _ (Below.refl _ _)
            have t0 : Below wr.heap.size wr wr.drew := (Below.refl _ _).drew
            have HI := Lib.hid (h.below hbel)
            have t1 := bel_alloc wr (.cells [.int .i64 1, .int .i64 1, .int .i64 1].toArray 2)
            have t1d : Below wr.heap.size wr (wr.alloc (.cells [.int .i64 1, .int .i64 1, .int .i64 1].toArray 2)).drew := t1.drew
            have N1 := Lib.hid ((Cs.new wr [.int .i64 1, .int .i64 1, .int .i64 1] 2).ints (n := 3) [1, 1, 1] rfl rfl (by decide) (by intro z hz; simp at hz; subst hz; decide))
            have N1d : Hid (Ints .i64 (wr.alloc (.cells [.int .i64 1, .int .i64 1, .int .i64 1].toArray 2)).drew (some ⟨wr.heap.size, 0, none⟩) 3 3 [1, 1, 1]) := N1.out.below ⟨rfl, rfl, rfl, Nat.le_refl _, fun _ _ => rfl⟩
            have H1d := Lib.hid (HI.out.below t1d)
            go_wp2_with fail
            go_region_held3 (fun w' => w'.cell? ⟨g, go, none⟩ = some (.slice A 3 c) ∧ w'.cell? ⟨g, go + 2, none⟩ = some (.int .i64 key)) (first | exact s0 | exact SS.out _ t0 | exact SS.out _ tw | exact SS.out _ t1 | exact SS.out _ t1d) (first | (go_at_call 99; refine (l09Join_any A 3 c ss (some ⟨wr.heap.size, 0, none⟩) 3 [1, 1, 1] _ H1d.out N1d.out SL ONE).mono ?_; rintro e w5 ⟨rfl, t5⟩; rw [J3.out]; have tw : Below wr.heap.size wr w5 := bel_trans t1d t5) | (go_at_call 88; refine (l09Of_any 1 key _ (by omega) (by omega) (by omega) (by omega)).mono ?_; rintro e w6 ⟨rfl, rfl⟩))
            all_goals
              have bel5 := bel_trans hbel tw
              go_wp2_with fail
              go_ret
              exact ⟨ret_bool R.out.symm, bel5⟩
    · have R : Hid (balB ss ps key = false) := by show _ = _; simp [balB, kl, e2]
      subst e1
      go_enter Try.func78, Try.ntmps78
      go_wp2_with fail
      refine (l09Seals_any A 3 c ss 3 _ h).mono ?_
      rintro e w1 ⟨rfl, rfl⟩
      rw [HS.out]
      go_wp2_with fail
      go_ret
      exact ⟨ret_bool R.out.symm, Below.refl _ _⟩
def balQ (q : Bal) : Bool := balB q.ss q.ps q.key
def castB (qs : List Bal) (ws : List Int) : Bool := decide (qs.length ≤ 12) && allB ws qs.length weightB && qs.all balQ
theorem cast_long {qs : List Bal} {ws : List Int} (h : ¬ qs.length ≤ 12) : castB qs ws = false := by simp [castB, h]
theorem cast_ws {qs : List Bal} {ws : List Int} (h : allB ws qs.length weightB = false) : castB qs ws = false := by simp [castB, h]
theorem cast_bal {qs : List Bal} {ws : List Int} (h : qs.all balQ = false) : castB qs ws = false := by simp [castB, h]
theorem cast_yes {qs : List Bal} {ws : List Int} (h1 : qs.length ≤ 12) (h2 : allB ws qs.length weightB = true) (h3 : qs.all balQ = true) : castB qs ws = true := by simp [castB, h1, h2, h3]
set_option maxHeartbeats 1000000 in
theorem l09Cast_any (A : Option Addr) (n c : Nat) (qs : List Bal) (B : Option Addr) (m d : Nat) (ws : List Int) (w : World) (h : Bals w A n c qs) (k : Ints .i64 w B m d ws) :
    Calls Try.prog 86 #[.slice A n c, .slice B m d] w fun e w' => e = .returned (.bool (castB qs ws)) ∧ Below w.heap.size w w' := by
  have hm := h.short
  have hl := Lib.hid h.1
  by_cases h12 : n ≤ 12
  · cases hw : allB ws (n : Int) weightB
    · have R : Hid (castB qs ws = false) := cast_ws (by rw [hl.out]; exact hw)
      have HW := Lib.hid hw
      clear hw
      go_enter Try.func86, Try.ntmps86
      go_wp2_with fail
      refine (l09Weights_any B m d ws n _ k).mono ?_
      rintro e w1 ⟨rfl, rfl⟩
      rw [HW.out]
      go_wp2_with fail
      go_ret
      exact ⟨ret_bool R.out.symm, Below.refl _ _⟩
    · have HW := Lib.hid hw
      clear hw
      go_enter Try.func86, Try.ntmps86
      go_wp2_with fail
      refine (l09Weights_any B m d ws n _ k).mono ?_
      rintro e w1 ⟨rfl, rfl⟩
      rw [HW.out]
      go_wp2_with fail
      go_loopw [5] (fun i wr => ∃ j : Nat, j ≤ n ∧ i = .int .i64 j ∧ (qs.take j).all balQ = true ∧ Below w.heap.size w wr) (fun i _ => n - (intOf i).toNat)
      case atStart => exact ⟨0, Nat.zero_le _, rfl, rfl, Below.refl _ _⟩
      case round =>
        obtain ⟨j, hj, rfl, hall, hbel⟩ := hrel
        have HA := Lib.hid hall
        clear hall
        by_cases hlt : j < n
        · obtain ⟨b, off, q, rfl, hb, ⟨A1, n1, c1, B1, m1, d1, q0, q1, q2, i1, i2⟩, hq⟩ := (h.below hbel).at hlt
          have LB := Lib.hid (show Calls Try.prog 78 #[.pointer (some ⟨b, off + j * 3, none⟩)] wr fun e w' => e = .returned (.bool (balQ q)) ∧ Below wr.heap.size wr w' from l09Ballot_at b (off + j * 3) A1 n1 c1 q.ss B1 m1 d1 q.ps q.key wr q0 q1 q2 hb i1 i2)
          clear i1 i2 q0 q1 q2
          cases hp : balQ q
          · have HP := Lib.hid hp
            have R : Hid (castB qs ws = false) := cast_bal (all_stop hq.out hp)
            clear hp
            go_wp2_with fail
            refine LB.out.mono ?_
            rintro e w2 ⟨rfl, b2⟩
            rw [HP.out]
            have bel2 := bel_trans hbel b2
            go_wp2_with fail
            go_ret
            exact ⟨ret_bool R.out.symm, bel2⟩
          · have HP := Lib.hid hp
            clear hp
            go_wp2_with fail
            refine LB.out.mono ?_
            rintro e w2 ⟨rfl, b2⟩
            rw [HP.out]
            have bel2 := bel_trans hbel b2
            go_wp2_with fail
            go_roundw
            case rel => exact ⟨j + 1, by omega, by go_num, all_next hq.out HA.out HP.out, bel2⟩
            case measure => simp [intOf]; omega
        · have R : Hid (castB qs ws = true) := cast_yes (by rw [hl.out]; exact h12) (by rw [hl.out]; exact HW.out) (all_end (by rw [hl.out]; omega) HA.out)
          go_wp2_with fail
          go_ret
          exact ⟨ret_bool R.out.symm, hbel⟩
  · have R : Hid (castB qs ws = false) := cast_long (by rw [hl.out]; exact h12)
    go_enter Try.func86, Try.ntmps86
    go_wp2_with fail
    go_ret
    exact ⟨ret_bool R.out.symm, Below.refl _ _⟩
/-- A column of seals; the count of ballots. -/
def balCol (qs : List Bal) (k n : Nat) : List Int := (qs.take n).map fun q => q.ss.getD k 0
theorem balCol_succ {qs : List Bal} {k i : Nat} {q : Bal} {x : Int} (hq : qs[i]? = some q) (hx : q.ss[k]? = some x) : balCol qs k (i + 1) = balCol qs k i ++ [x] := by
  unfold balCol
  rw [take_snoc' hq, List.map_append]
  simp [List.getD_eq_getElem?_getD, hx]
def cntL (qs : List Bal) (ws : List Int) (k : Nat) : List Int := (List.range k).map fun i => joinS (balCol qs i qs.length) ws
theorem cntL_succ (qs : List Bal) (ws : List Int) (k : Nat) : cntL qs ws (k + 1) = cntL qs ws k ++ [joinS (balCol qs k qs.length) ws] := by simp [cntL, List.range_succ]
theorem cast_facts {qs : List Bal} {ws : List Int} (h : castB qs ws = true) : qs.length ≤ 12 ∧ (ws.length = qs.length ∧ ∀ z ∈ ws, weightB z = true) ∧ ∀ q ∈ qs, q.ss.length = 3 ∧ ∀ z ∈ q.ss, sealB z = true := by
  unfold castB at h
  simp only [Bool.and_eq_true, decide_eq_true_eq] at h
  obtain ⟨⟨h1, h2⟩, h3⟩ := h
  have hw := allB_true.1 h2
  refine ⟨h1, ⟨by have := hw.1; omega, hw.2⟩, fun q hq => ?_⟩
  have hb := List.all_eq_true.1 h3 q hq
  unfold balQ balB at hb
  simp only [Bool.and_eq_true, decide_eq_true_eq] at hb
  exact ⟨hb.1.1.1.1, bits_seals hb.1.1.1.1 hb.1.1.1.2 hb.1.2⟩
theorem balCol_seals {qs : List Bal} {k n : Nat} (hk : k < 3) (h : ∀ q ∈ qs, q.ss.length = 3 ∧ ∀ z ∈ q.ss, sealB z = true) : ∀ z ∈ balCol qs k n, sealB z = true := by
  intro z hz
  unfold balCol at hz
  obtain ⟨q, hq, rfl⟩ := List.mem_map.1 hz
  obtain ⟨l3, hs⟩ := h q (List.mem_of_mem_take hq)
  have e : q.ss[k]? = some (q.ss[k]'(by omega)) := List.getElem?_eq_getElem _
  rw [List.getD_eq_getElem?_getD, e]
  exact hs _ (mem_of_at e)
end Go.Proofs.Ytnjnngnagdhaiaa
