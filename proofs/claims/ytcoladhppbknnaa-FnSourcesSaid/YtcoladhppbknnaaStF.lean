/- The laws' statutes and patches. -/
import Derived.Test.YtcoladhppbknnaaStE
namespace Go.Proofs.Ytcoladhppbknnaa
set_option linter.unusedVariables false
set_option linter.unusedSimpArgs false
set_option maxRecDepth 100000
open Go.RowKit Go.Deep
theorem b10f_skip {t : List Ar} {n : Nat} {e : Ed} {p : List Ed} (h : fnd t e.id ≠ e.old ∨ (e.kind = 1 ∧ 8 ≤ n)) : b10f t n (e :: p) = b10f t n p := by
  conv => lhs; unfold b10f
  rw [if_pos h]
theorem b10f_take {t : List Ar} {n : Nat} {e : Ed} {p : List Ed} (h : ¬ (fnd t e.id ≠ e.old ∨ (e.kind = 1 ∧ 8 ≤ n))) : b10f t n (e :: p) = e :: b10f t (if e.kind = 1 then n + 1 else n) p := by
  conv => lhs; unfold b10f
  rw [if_neg h]
theorem drop_at {α : Type} {p : List α} {k : Nat} {e : α} (h : p[k]? = some e) : p.drop k = e :: p.drop (k + 1) := by
  obtain ⟨hk, rfl⟩ := List.getElem?_eq_some_iff.1 h
  exact List.drop_eq_getElem_cons hk
set_option maxHeartbeats 2000000 in
theorem b10Fit_ok (A : Option Addr) (n c : Nat) (t : List Ar) (B : Option Addr) (m d : Nat) (p : List Ed) (w : World) (h : Ars w A n c t) (k : Eds w B m d p) (htl : t.length ≤ 8) (hpl : p.length ≤ 16) :
    Calls Try.prog 71 #[.slice A n c, .slice B m d] w fun e w' => ∃ O L oc, e = .returned (.slice O L oc) ∧ EdsO w' w.heap.size O L oc (b10f t t.length p) ∧ Below w.heap.size w w' := by
  obtain rfl : t.length = n := h.len
  obtain rfl : p.length = m := k.len
  have HA := Lib.hid h
  have HK := Lib.hid k
  have O0 := Lib.hid (edsO_lit w)
  have B0 := Lib.hid (bel_alloc w (.cells #[] 74))
  clear h k
  go_enter Try.func71, Try.ntmps71
  go_wp2_with fail
  go_loopw [5, 6, 7] (fun s5 s6 s7 wr => ∃ (j L nn : Nat) (O : Option Addr) (oc : Nat) (out : List Ed), j ≤ p.length ∧ s5 = .slice O L oc ∧ s6 = .int .i64 nn ∧ s7 = .int .i64 j ∧ b10f t t.length p = out ++ b10f t nn (p.drop j) ∧ L ≤ j ∧ nn ≤ t.length + j ∧ EdsO wr w.heap.size O L oc out ∧ Below w.heap.size w wr) (fun _ _ s7 _ => p.length - (intOf s7).toNat)
  case atStart => exact ⟨0, 0, t.length, _, 0, [], Nat.zero_le _, rfl, rfl, rfl, by simp, Nat.zero_le _, by omega, O0.out, B0.out⟩
  case round =>
    obtain ⟨j, L, nn, O, oc, out, hj, rfl, rfl, rfl, he, hLj, hnn, ho, hb⟩ := hrel
    have HE := Lib.hid he
    have HO := Lib.hid ho
    have HB := Lib.hid hb
    have hsz := hb.size
    clear he ho hb O0 B0
    by_cases hlt : j < p.length
    · have d0 := decide_eq_true (show (j : Int) < (p.length : Int) by omega)
      obtain ⟨b, off, a, rfl, hbw, ha, hok, c0, c1, c2, c3⟩ := (HK.out.below HB.out).at hlt
      have k0 : (0 : Int) ≤ (j : Int) := by omega
      have k1 : (j : Int) < (p.length : Int) := by omega
      have DA := Lib.hid (drop_at ha.out)
      have FN := Lib.hid (fun W (hW : Ars W A t.length c t) => l07Find_ok A t.length c t a.id W hW)
      have HT := Lib.hid (HA.out.below HB.out)
      have EA := Lib.hid (fun W (hb : Below wr.heap.size wr W) => HT.out.below hb)
      obtain ⟨f, hf⟩ : ∃ x, fnd t a.id = x := ⟨_, rfl⟩
      have HF := Lib.hid hf
      rw [hf] at FN
      clear hf
      by_cases hfo : f = a.old
      · subst hfo
        have ne : (a.old.toList != a.old.toList) = false := by simp
        have e1 : (a.old.toList == a.old.toList) = true := by simp
        by_cases hk1 : a.kind = 1
        · rw [hk1] at c0
          by_cases h8 : 8 ≤ nn
          · have d8 : decide ((8 : Int) ≤ (nn : Int)) = true := decide_eq_true (by omega)
            have NX := Lib.hid (show b10f t nn (p.drop j) = b10f t nn (p.drop (j + 1)) by rw [DA.out]; exact b10f_skip (.inr ⟨hk1, h8⟩))
            clear hk1 h8
            go_wp2_with fail
            go_quiet ((go_at_call 107; exact quiet_left (FN.out _ (by exact HT.out))))
            go_wp2_with fail
            go_roundw
            case rel => exact ⟨j + 1, L, nn, O, oc, out, by omega, rfl, rfl, by go_num, by rw [HE.out, NX.out], by omega, by omega, OwnR.below HO.out (below_drewN (Below.refl _ _) _), below_drewN HB.out _⟩
            case measure => simp [intOf]; omega
          · have d8 : decide ((8 : Int) ≤ (nn : Int)) = false := decide_eq_false (by omega)
            have NX := Lib.hid (show b10f t nn (p.drop j) = a :: b10f t (nn + 1) (p.drop (j + 1)) by
              rw [DA.out, b10f_take (by rw [HF.out]; simp; exact fun _ => by omega), if_pos hk1])
            have ew : IntKind.i64.wrap ((nn : Int) + 1) = (nn : Int) + 1 := IntWalk.i64_in _ (by omega)
            have AE := Lib.hid (show a = ⟨1, a.id, a.old, a.new⟩ by rw [← hk1])
            clear hk1 h8
            go_wp2_with fail
            go_quiet ((go_at_call 107; exact quiet_left (FN.out _ (by exact HT.out))))
            have OD := Lib.hid (fun q => OwnR.below HO.out (below_drewN (Below.refl _ _) q))
            have BD := Lib.hid (fun q => below_drewN HB.out q)
            have SD' := Lib.hid (fun q => (BD.out q).size)
            go_wp2_with (at_builtin; refine app_ed1 _ rfl _ _ rfl w.heap.size O L oc out rfl (OD.out _) ⟨1, a.id, a.old, a.new⟩ rfl (by omega) (SD'.out _) ?_; intro A' c' w10 p1 p2)
            go_roundw
            case rel => exact ⟨j + 1, L + 1, nn + 1, A', c', out ++ [a], by omega, rfl, by first | rfl | go_num, by go_num, by rw [HE.out, NX.out, List.append_assoc]; rfl, by omega, by omega, by (have q1 := p1; rw [← AE.out] at q1; exact q1), (BD.out _).grown p2 (BD.out _).size (fun x hx => (OwnR.block HO.out x hx).1)⟩
            case measure => simp [intOf]; omega
        · have dk : decide (a.kind = 1) = false := decide_eq_false hk1
          have dk2 : (a.kind == 1) = false := by rw [beq_eq_false_iff_ne]; exact hk1
          have NX := Lib.hid (show b10f t nn (p.drop j) = a :: b10f t nn (p.drop (j + 1)) by
            rw [DA.out, b10f_take (by rw [HF.out]; simp; exact fun hh => absurd hh hk1), if_neg hk1])
          clear hk1
          go_wp2_with fail
          go_quiet ((go_at_call 107; exact quiet_left (FN.out _ (by exact HT.out))))
          have OD := Lib.hid (fun q => OwnR.below HO.out (below_drewN (Below.refl _ _) q))
          have BD := Lib.hid (fun q => below_drewN HB.out q)
          have SD' := Lib.hid (fun q => (BD.out q).size)
          go_wp2_with (at_builtin; refine app_ed1 _ rfl _ _ rfl w.heap.size O L oc out rfl (OD.out _) a rfl (by omega) (SD'.out _) ?_; intro A' c' w10 p1 p2)
          go_roundw
          case rel => exact ⟨j + 1, L + 1, nn, A', c', out ++ [a], by omega, rfl, by first | rfl | go_num, by go_num, by rw [HE.out, NX.out, List.append_assoc]; rfl, by omega, by omega, p1, (BD.out _).grown p2 (BD.out _).size (fun x hx => (OwnR.block HO.out x hx).1)⟩
          case measure => simp [intOf]; omega
      · have ne : (f.toList != a.old.toList) = true := by simp; exact fun hh => hfo (bytes_ext.1 hh)
        have e1 : (f.toList == a.old.toList) = false := by rw [beq_eq_false_iff_ne]; exact fun hh => hfo (bytes_ext.1 hh)
        have e2 : ¬ f.toList = a.old.toList := fun hh => hfo (bytes_ext.1 hh)
        have NX := Lib.hid (show b10f t nn (p.drop j) = b10f t nn (p.drop (j + 1)) by rw [DA.out]; exact b10f_skip (.inl (by rw [HF.out]; exact hfo)))
        clear hfo
        go_wp2_with fail
        go_quiet ((go_at_call 107; exact quiet_left (FN.out _ (by exact HT.out))))
        go_wp2_with fail
        go_roundw
        case rel => exact ⟨j + 1, L, nn, O, oc, out, by omega, rfl, rfl, by go_num, by rw [HE.out, NX.out], by omega, by omega, OwnR.below HO.out (below_drewN (Below.refl _ _) _), below_drewN HB.out _⟩
        case measure => simp [intOf]; omega
    · obtain rfl : p.length = j := by omega
      have d0 := decide_eq_false (show ¬ (p.length : Int) < (p.length : Int) by omega)
      have EQ := Lib.hid (show b10f t t.length p = out by rw [HE.out, List.drop_of_length_le (Nat.le_refl _)]; simp [b10f])
      go_wp2_with fail
      go_ret
      exact ⟨O, L, oc, rfl, by rw [EQ.out]; exact HO.out, HB.out⟩
def Ga (f : Nat → ByteArray) (n : Nat) : List Ar := (List.range n).flatMap fun k => if f k = ByteArray.empty then [] else [⟨(k : Int) + 1, f k⟩]
theorem Ga_no {f : Nat → ByteArray} {n : Nat} (h : f n = ByteArray.empty) : Ga f (n + 1) = Ga f n := by
  unfold Ga
  rw [List.range_succ, List.flatMap_append]
  simp [h]
theorem Ga_yes {f : Nat → ByteArray} {n : Nat} (h : f n ≠ ByteArray.empty) : Ga f (n + 1) = Ga f n ++ [⟨(n : Int) + 1, f n⟩] := by
  unfold Ga
  rw [List.range_succ, List.flatMap_append]
  simp [h]
theorem Ga_mem {f : Nat → ByteArray} : ∀ n a, a ∈ Ga f n → ∃ k, k < n ∧ a = ⟨(k : Int) + 1, f k⟩ ∧ f k ≠ ByteArray.empty := by
  intro n
  induction n with
  | zero => intro a ha; simp [Ga] at ha
  | succ n ih =>
    intro a ha
    by_cases h : f n = ByteArray.empty
    · rw [Ga_no h] at ha
      obtain ⟨k, hk, r⟩ := ih a ha
      exact ⟨k, by omega, r⟩
    · rw [Ga_yes h] at ha
      rcases List.mem_append.1 ha with ha | ha
      · obtain ⟨k, hk, r⟩ := ih a ha
        exact ⟨k, by omega, r⟩
      · rw [List.mem_singleton] at ha
        exact ⟨n, by omega, ha, h⟩
theorem Ga_len (f : Nat → ByteArray) (n : Nat) : (Ga f n).length ≤ n := by
  induction n with
  | zero => simp [Ga]
  | succ n ih =>
    by_cases h : f n = ByteArray.empty
    · rw [Ga_no h]; omega
    · rw [Ga_yes h, List.length_append]; simp; omega
theorem Ga_srt (f : Nat → ByteArray) (n : Nat) : (Ga f n).Pairwise (fun a b => a.id < b.id) := by
  induction n with
  | zero => simp [Ga]
  | succ n ih =>
    by_cases h : f n = ByteArray.empty
    · rw [Ga_no h]; exact ih
    · rw [Ga_yes h, List.pairwise_append]
      refine ⟨ih, List.pairwise_singleton _ _, fun a ha b hb => ?_⟩
      obtain ⟨k, hk, rfl, _⟩ := Ga_mem n a ha
      rw [List.mem_singleton] at hb
      subst hb
      show (k : Int) + 1 < (n : Int) + 1
      omega
theorem Ga_fnd {f : Nat → ByteArray} {n k : Nat} (hk : k < n) : fnd (Ga f n) ((k : Int) + 1) = f k := by
  by_cases h : f k = ByteArray.empty
  · rw [h]
    refine fnd_none fun a ha e => ?_
    obtain ⟨i, hi, rfl, h2⟩ := Ga_mem n a ha
    have : i = k := by have e : (i : Int) + 1 = (k : Int) + 1 := e; omega
    subst this
    exact h2 h
  · have hm : (⟨(k : Int) + 1, f k⟩ : Ar) ∈ Ga f n := List.mem_flatMap.2 ⟨k, List.mem_range.2 hk, by rw [if_neg h]; simp⟩
    exact fnd_mem (Ga_srt f n) hm
/-- A statute out of its texts. -/
theorem Ga_self {s : List Ar} (hs : SOk s) : Ga (fun k => fnd s ((k : Int) + 1)) 99 = s := by
  have hok : SOk (Ga (fun k => fnd s ((k : Int) + 1)) 99) := by
    refine ⟨Ga_srt _ _, fun a ha => ?_, fun a ha => ?_⟩
    · obtain ⟨k, hk, rfl, h2⟩ := Ga_mem 99 a ha
      obtain ⟨b, hb, _, e⟩ := fnd_some h2
      show senB (fnd s ((k : Int) + 1)) = true
      rw [← e]
      exact hs.txt b hb
    · obtain ⟨k, hk, rfl, h2⟩ := Ga_mem 99 a ha
      show 1 ≤ (k : Int) + 1 ∧ (k : Int) + 1 ≤ 99
      omega
  refine st_ext hok hs fun id => ?_
  by_cases h : 1 ≤ id ∧ id ≤ 99
  · obtain ⟨k, hk, rfl⟩ := num_of h
    exact Ga_fnd hk
  · rw [fnd_rng hok h, fnd_rng hs h]
set_option maxHeartbeats 2000000 in
theorem l07Apply_ok (A : Option Addr) (n c : Nat) (s : List Ar) (B : Option Addr) (m d : Nat) (p : List Ed) (w : World) (h : Ars w A n c s) (k : Eds w B m d p) (hs : SOk s) (hp : POk p) (hf : Fit s p) (hl : (apps s p).length ≤ 8) :
    Calls Try.prog 73 #[.slice A n c, .slice B m d] w fun e w' => ∃ O L oc, e = .returned (.tuple #[.slice O L oc, .bool true]) ∧ ArsO w' w.heap.size O L oc (apps s p) ∧ Below w.heap.size w w' := by
  obtain ⟨h1, h2⟩ := apps_ok hs hp hf
  have HA := Lib.hid h
  have HK := Lib.hid k
  have O0 := Lib.hid (arsO_lit w)
  have B0 := Lib.hid (bel_alloc w (.cells #[] 70))
  have GS := Lib.hid (Ga_self h1)
  have NWs := Lib.hid h2
  have HF := Lib.hid hf
  have HP := Lib.hid hp
  have HL := Lib.hid hl
  clear h k hs hp hf hl h1 h2
  go_enter Try.func73, Try.ntmps73
  go_wp2_with fail
  go_loopw [6, 7] (fun s6 t7 wr => ∃ (j L : Nat) (O : Option Addr) (oc : Nat), j ≤ 99 ∧ s6 = .slice O L oc ∧ t7 = .int .i64 ((j : Int) + 1) ∧ ArsO wr w.heap.size O L oc (Ga (fun k => fnd (apps s p) ((k : Int) + 1)) j) ∧ Below w.heap.size w wr) (fun _ t _ => 100 - (intOf t).toNat)
  case atStart => exact ⟨0, 0, _, 0, Nat.zero_le _, rfl, rfl, O0.out, B0.out⟩
  case round =>
    obtain ⟨j, L, O, oc, hj, rfl, rfl, ho, hb⟩ := hrel
    have HO := Lib.hid ho
    have HB := Lib.hid hb
    have hL := ho.len
    have hL2 := Ga_len (fun k => fnd (apps s p) ((k : Int) + 1)) j
    rw [hL] at hL2
    have HLL := Lib.hid hL
    clear ho hb O0 B0 hL
    by_cases hlt : j < 99
    · have d0 := decide_eq_true (show (j : Int) + 1 ≤ 99 by omega)
      have ew : IntKind.i64.wrap ((j : Int) + 1 + 1) = (j : Int) + 1 + 1 := IntWalk.i64_in _ (by omega)
      have EO := Lib.hid (fun W hW => l07EditOf_ok B m d p ((j : Int) + 1) W hW)
      have LF := Lib.hid (l07Find_ok A n c s ((j : Int) + 1) wr (HA.out.below HB.out))
      have NWj := NWs.out ((j : Int) + 1)
      obtain ⟨f, hf⟩ : ∃ x, fnd (apps s p) ((j : Int) + 1) = x := ⟨_, rfl⟩
      have GN := Lib.hid (fun (he : f = ByteArray.empty) => Ga_no (f := fun k => fnd (apps s p) ((k : Int) + 1)) (n := j) (by show fnd (apps s p) ((j : Int) + 1) = _; rw [hf]; exact he))
      have GY := Lib.hid (fun (he : f ≠ ByteArray.empty) => Ga_yes (f := fun k => fnd (apps s p) ((k : Int) + 1)) (n := j) (by show fnd (apps s p) ((j : Int) + 1) ≠ _; rw [hf]; exact he))
      rw [hf] at NWj
      have GF := Lib.hid hf
      clear hf
      cases hed : edo p ((j : Int) + 1) with
      | none =>
        have e1 : edoD p ((j : Int) + 1) = dEd := by unfold edoD; rw [hed]; rfl
        rw [nw_no hed] at NWj
        rw [e1] at EO
        rw [← NWj] at LF
        clear hed e1 NWj
        have EO2 := Lib.hid (fun W hW => (show Calls Try.prog 80 #[.slice B m d, .int .i64 ((j : Int) + 1)] W fun e w' => e = .returned (.agg #[.int .i64 0, .int .i64 0, .string ByteArray.empty, .string ByteArray.empty]) ∧ Below W.heap.size W w' from EO.out W hW))
        clear EO
        go_wp2_with fail
        refine LF.out.mono ?_
        rintro e w3 ⟨rfl, rfl⟩
        go_wp2_with fail
        refine (EO2.out wr (HK.out.below HB.out)).mono ?_
        rintro e w4 ⟨rfl, b4⟩
        have b5 := bel_alloc w4 (.cells #[.int .i64 0, .int .i64 0, .string ByteArray.empty, .string ByteArray.empty] 74)
        have y0 := (Cs.new w4 [.int .i64 0, .int .i64 0, .string ByteArray.empty, .string ByteArray.empty] 74).cell 0 rfl
        have B5 := Lib.hid (bel_trans HB.out (bel_trans b4 b5))
        have O5 := Lib.hid (OwnR.below HO.out (bel_trans b4 b5))
        clear b4 b5
        go_upto_region 11 with fail
        obtain ⟨w5, hw5⟩ : ∃ x, w4.alloc (.cells #[.int .i64 0, .int .i64 0, .string ByteArray.empty, .string ByteArray.empty] 74) = x := ⟨_, rfl⟩
        rw [hw5] at B5 O5
        rw [hw5]
        have bsz := B5.out.size
        clear hw5 y0
        by_cases hfe : f = ByteArray.empty
        · have GE := Lib.hid (GN.out hfe)
          have em := bytes_mt.2 hfe
          clear hfe
          go_wp2_with fail
          go_roundw
          case rel => exact ⟨j + 1, L, O, oc, by omega, rfl, by push_cast; rfl, by rw [GE.out]; exact O5.out, B5.out⟩
          case measure => simp [intOf]; omega
        · have GE := Lib.hid (GY.out hfe)
          have em : (f).toList.isEmpty = false := by rw [Bool.eq_false_iff]; exact fun hh => hfe (bytes_mt.1 hh)
          clear hfe
          go_wp2_with (at_builtin; refine app_ar1 w5 rfl _ _ rfl w.heap.size O L oc _ rfl O5.out ⟨(j : Int) + 1, f⟩ rfl (by omega) bsz ?_; intro A' c' w10 p1 p2)
          go_roundw
          case rel => exact ⟨j + 1, L + 1, A', c', by omega, rfl, by push_cast; rfl, by rw [GE.out]; (first | exact p1 | (show ArsO _ _ _ _ _ (_ ++ [⟨_, fnd (apps s p) ((j : Int) + 1)⟩]); rw [GF.out]; exact p1)), B5.out.grown p2 B5.out.size (fun x hx => (OwnR.block O5.out x hx).1)⟩
          case measure => simp [intOf]; omega
      | some e =>
        obtain ⟨hm, hi⟩ := edo_some hed
        have e1 : edoD p ((j : Int) + 1) = e := by unfold edoD; rw [hed]; rfl
        rw [nw_yes hed] at NWj
        rw [e1] at EO
        have hfe := HF.out e hm
        rw [hi] at hfe
        rw [hfe] at LF
        have hk : e.kind ≠ 0 := by rcases edB_cases (HP.out.ed e hm) with ⟨k, _⟩ | ⟨k, _⟩ | ⟨k, _⟩ <;> omega
        have dk : decide (e.kind = 0) = false := decide_eq_false hk
        have dk2 : (e.kind != 0) = true := by simpa using hk
        subst NWj
        clear hed e1 hm hi hfe hk
        go_wp2_with fail
        refine LF.out.mono ?_
        rintro x w3 ⟨rfl, rfl⟩
        go_wp2_with fail
        refine (EO.out wr (HK.out.below HB.out)).mono ?_
        rintro x w4 ⟨rfl, b4⟩
        have b5 := bel_alloc w4 (.cells #[.int .i64 e.kind, .int .i64 e.id, .string e.old, .string e.new] 74)
        have CC := Cs.new w4 [.int .i64 e.kind, .int .i64 e.id, .string e.old, .string e.new] 74
        have y0 := CC.cell 0 rfl
        have y2 := CC.cell 2 rfl
        have y3 := CC.cell 3 rfl
        have B5 := Lib.hid (bel_trans HB.out (bel_trans b4 b5))
        have O5 := Lib.hid (OwnR.below HO.out (bel_trans b4 b5))
        clear b4 b5 CC
        go_upto_region 11 with fail
        obtain ⟨w5, hw5⟩ : ∃ x, w4.alloc (.cells #[.int .i64 e.kind, .int .i64 e.id, .string e.old, .string e.new] 74) = x := ⟨_, rfl⟩
        rw [hw5] at B5 O5
        rw [hw5]
        have bsz := B5.out.size
        clear hw5 y0
        by_cases hfe : e.new = ByteArray.empty
        · have GE := Lib.hid (GN.out hfe)
          have em := bytes_mt.2 hfe
          clear hfe
          go_wp2_with fail
          go_roundw
          case rel => exact ⟨j + 1, L, O, oc, by omega, rfl, by push_cast; rfl, by rw [GE.out]; exact O5.out, B5.out⟩
          case measure => simp [intOf]; omega
        · have GE := Lib.hid (GY.out hfe)
          have em : (e.new).toList.isEmpty = false := by rw [Bool.eq_false_iff]; exact fun hh => hfe (bytes_mt.1 hh)
          clear hfe
          go_wp2_with (at_builtin; refine app_ar1 w5 rfl _ _ rfl w.heap.size O L oc _ rfl O5.out ⟨(j : Int) + 1, e.new⟩ rfl (by omega) bsz ?_; intro A' c' w10 p1 p2)
          go_roundw
          case rel => exact ⟨j + 1, L + 1, A', c', by omega, rfl, by push_cast; rfl, by rw [GE.out]; (first | exact p1 | (show ArsO _ _ _ _ _ (_ ++ [⟨_, fnd (apps s p) ((j : Int) + 1)⟩]); rw [GF.out]; exact p1)), B5.out.grown p2 B5.out.size (fun x hx => (OwnR.block O5.out x hx).1)⟩
          case measure => simp [intOf]; omega
    · obtain rfl : j = 99 := by omega
      have dl : decide ((L : Int) ≤ 8) = true := by
        refine decide_eq_true ?_
        have h1 := HLL.out
        rw [GS.out] at h1
        have := HL.out
        omega
      go_wp2_with fail
      go_ret2
      exact ⟨O, L, oc, rfl, by have := HO.out; rw [GS.out] at this; exact this, HB.out⟩
end Go.Proofs.Ytcoladhppbknnaa
