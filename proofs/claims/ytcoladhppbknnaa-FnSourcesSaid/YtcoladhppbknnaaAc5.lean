/- The reference's patch applied, fit or not; drawn patches that may be none. -/
import Derived.Test.YtcoladhppbknnaaAc4
namespace Go.Proofs.Ytcoladhppbknnaa
set_option linter.unusedVariables false
set_option linter.unusedSimpArgs false
set_option maxRecDepth 100000
open Go.RowKit Go.Deep
theorem Ga_apps {s : List Ar} {p : List Ed} (hs : SOk s) (hp : POk p) (hf : Fit s p) : Ga (fun k => nw p s ((k : Int) + 1)) 99 = apps s p := by
  obtain ⟨h1, h2⟩ := apps_ok hs hp hf
  rw [← Ga_self h1]
  congr 1
  funext k
  rw [h2]
def ApA (s : List Ar) (p : List Ed) (w : World) (e : Ending) (w' : World) : Prop :=
  ∃ (r : Bool) (O : Option Addr) (L oc : Nat), e = .returned (.tuple #[.slice O L oc, .bool r]) ∧ (r = true → Fit s p ∧ (apps s p).length ≤ 8 ∧ ArsO w' w.heap.size O L oc (apps s p)) ∧ Below w.heap.size w w'
set_option maxHeartbeats 4000000 in
theorem l07Apply_any (A : Option Addr) (n c : Nat) (s : List Ar) (B : Option Addr) (m d : Nat) (p : List Ed) (w : World) (h : Ars w A n c s) (k : Eds w B m d p) (hs : SOk s) (hp : POk p) :
    Calls Try.prog 73 #[.slice A n c, .slice B m d] w (ApA s p w) := by
  have HA := Lib.hid h
  have HK := Lib.hid k
  have O0 := Lib.hid (arsO_lit w)
  have B0 := Lib.hid (bel_alloc w (.cells #[] 70))
  have HS := Lib.hid hs
  have HP := Lib.hid hp
  clear h k hs hp
  go_enter Try.func73, Try.ntmps73
  go_wp2_with fail
  go_loopw [6, 7] (fun s6 t7 wr => ∃ (j L : Nat) (O : Option Addr) (oc : Nat), j ≤ 99 ∧ s6 = .slice O L oc ∧ t7 = .int .i64 ((j : Int) + 1) ∧ (∀ e ∈ p, e.id ≤ (j : Int) → fnd s e.id = e.old) ∧ ArsO wr w.heap.size O L oc (Ga (fun k => nw p s ((k : Int) + 1)) j) ∧ Below w.heap.size w wr) (fun _ t _ => 100 - (intOf t).toNat)
  case atStart => exact ⟨0, 0, _, 0, Nat.zero_le _, rfl, rfl, fun e he hi => by have := HP.out.rng e he; omega, O0.out, B0.out⟩
  case round =>
    obtain ⟨j, L, O, oc, hj, rfl, rfl, hft, ho, hb⟩ := hrel
    have HFT := Lib.hid hft
    have HO := Lib.hid ho
    have HB := Lib.hid hb
    have hL := ho.len
    have hL2 := Ga_len (fun k => nw p s ((k : Int) + 1)) j
    rw [hL] at hL2
    have HLL := Lib.hid hL
    clear ho hb O0 B0 hL hft
    by_cases hlt : j < 99
    · have d0 := decide_eq_true (show (j : Int) + 1 ≤ 99 by omega)
      have ew : IntKind.i64.wrap ((j : Int) + 1 + 1) = (j : Int) + 1 + 1 := IntWalk.i64_in _ (by omega)
      have EO := Lib.hid (fun W hW => l07EditOf_ok B m d p ((j : Int) + 1) W hW)
      have LF := Lib.hid (l07Find_ok A n c s ((j : Int) + 1) wr (HA.out.below HB.out))
      obtain ⟨f, hf⟩ : ∃ x, nw p s ((j : Int) + 1) = x := ⟨_, rfl⟩
      have GN := Lib.hid (fun (he : f = ByteArray.empty) => Ga_no (f := fun k => nw p s ((k : Int) + 1)) (n := j) (by show nw p s ((j : Int) + 1) = _; rw [hf]; exact he))
      have GY := Lib.hid (fun (he : f ≠ ByteArray.empty) => Ga_yes (f := fun k => nw p s ((k : Int) + 1)) (n := j) (by show nw p s ((j : Int) + 1) ≠ _; rw [hf]; exact he))
      have GF := Lib.hid hf
      cases hed : edo p ((j : Int) + 1) with
      | none =>
        have e1 : edoD p ((j : Int) + 1) = dEd := by unfold edoD; rw [hed]; rfl
        have FT : Hid (∀ e ∈ p, e.id ≤ ((j + 1 : Nat) : Int) → fnd s e.id = e.old) := Lib.hid (fun e he hi => HFT.out e he (by
          have : e.id ≠ (j : Int) + 1 := fun c => by have := edo_mem HP.out.srt he; rw [c, hed] at this; cases this
          omega))
        rw [nw_no hed] at hf
        rw [e1] at EO
        rw [hf] at LF
        clear hed e1 hf
        have EO2 := Lib.hid (fun W hW => (show Calls Try.prog 80 #[.slice B m d, .int .i64 ((j : Int) + 1)] W fun e w' => e = .returned (.agg #[.int .i64 0, .int .i64 0, .string ByteArray.empty, .string ByteArray.empty]) ∧ Below W.heap.size W w' from EO.out W hW))
        clear EO
        go_wp2_with fail
        refine LF.out.mono ?_
        rintro e w3 ⟨rfl, rfl⟩
        go_wp2_with fail
        refine (EO2.out wr (HK.out.below HB.out)).mono ?_
        rintro e w4 ⟨rfl, b4⟩
        have b5 := bel_alloc w4 (.cells #[.int .i64 0, .int .i64 0, .string ByteArray.empty, .string ByteArray.empty] 74)
        have y0 := (Cs.new w4 [.int .i64 0, .int .i64 0, .string ByteArray.empty, .string ByteArray.empty] 74).cell 0 rfl
        have B5 := Lib.hid (bel_trans HB.out (bel_trans b4 b5))
        have O5 := Lib.hid (OwnR.below HO.out (bel_trans b4 b5))
        clear b4 b5
        go_upto_region 11 with fail
        obtain ⟨w5, hw5⟩ : ∃ x, w4.alloc (.cells #[.int .i64 0, .int .i64 0, .string ByteArray.empty, .string ByteArray.empty] 74) = x := ⟨_, rfl⟩
        rw [hw5] at B5 O5
        rw [hw5]
        have bsz := B5.out.size
        clear hw5 y0
        by_cases hfe : f = ByteArray.empty
        · have GE := Lib.hid (GN.out hfe)
          have em := bytes_mt.2 hfe
          clear hfe
          go_wp2_with fail
          go_roundw
          case rel => exact ⟨j + 1, L, O, oc, by omega, rfl, by push_cast; rfl, FT.out, by rw [GE.out]; exact O5.out, B5.out⟩
          case measure => simp [intOf]; omega
        · have GE := Lib.hid (GY.out hfe)
          have em : (f).toList.isEmpty = false := by rw [Bool.eq_false_iff]; exact fun hh => hfe (bytes_mt.1 hh)
          clear hfe
          go_wp2_with (at_builtin; refine app_ar1 w5 rfl _ _ rfl w.heap.size O L oc _ rfl O5.out ⟨(j : Int) + 1, f⟩ rfl (by omega) bsz ?_; intro A' c' w10 p1 p2)
          go_roundw
          case rel => exact ⟨j + 1, L + 1, A', c', by omega, rfl, by push_cast; rfl, FT.out, by rw [GE.out]; (first | exact p1 | (show ArsO _ _ _ _ _ (_ ++ [⟨_, nw p s ((j : Int) + 1)⟩]); rw [GF.out]; exact p1)), B5.out.grown p2 B5.out.size (fun x hx => (OwnR.block O5.out x hx).1)⟩
          case measure => simp [intOf]; omega
      | some e =>
        obtain ⟨hm, hi⟩ := edo_some hed
        have e1 : edoD p ((j : Int) + 1) = e := by unfold edoD; rw [hed]; rfl
        rw [nw_yes hed] at hf
        rw [e1] at EO
        obtain ⟨t, ht⟩ : ∃ x, fnd s ((j : Int) + 1) = x := ⟨_, rfl⟩
        rw [ht] at LF
        have hk : e.kind ≠ 0 := by rcases edB_cases (HP.out.ed e hm) with ⟨k, _⟩ | ⟨k, _⟩ | ⟨k, _⟩ <;> omega
        have dk : decide (e.kind = 0) = false := decide_eq_false hk
        have dk2 : (e.kind != 0) = true := by simpa using hk
        have UN : Hid (t ≠ e.old → ¬ Fit s p) := Lib.hid (fun hne hF => hne (by rw [← ht, ← hi]; exact hF e hm))
        have FT : Hid (t = e.old → ∀ x ∈ p, x.id ≤ ((j + 1 : Nat) : Int) → fnd s x.id = x.old) := Lib.hid (fun heq x hx hxi => by
          by_cases c : x.id = (j : Int) + 1
          · have := edo_mem HP.out.srt hx
            rw [c, hed] at this
            injection this with this
            subst this
            rw [c, ht, heq]
          · exact HFT.out x hx (by omega))
        have HF := Lib.hid hf
        clear hed e1 hm hi hk ht
        go_wp2_with fail
        refine LF.out.mono ?_
        rintro x w3 ⟨rfl, rfl⟩
        go_wp2_with fail
        refine (EO.out wr (HK.out.below HB.out)).mono ?_
        rintro x w4 ⟨rfl, b4⟩
        have b5 := bel_alloc w4 (.cells #[.int .i64 e.kind, .int .i64 e.id, .string e.old, .string e.new] 74)
        have CC := Cs.new w4 [.int .i64 e.kind, .int .i64 e.id, .string e.old, .string e.new] 74
        have y0 := CC.cell 0 rfl
        have y2 := CC.cell 2 rfl
        have y3 := CC.cell 3 rfl
        have B5 := Lib.hid (bel_trans HB.out (bel_trans b4 b5))
        have O5 := Lib.hid (OwnR.below HO.out (bel_trans b4 b5))
        clear b4 b5 CC EO LF
        by_cases hto : t = e.old
        · replace FT := Lib.hid (FT.out hto)
          subst hto
          have hf2 := HF.out
          subst hf2
          clear UN
          go_upto_region 11 with fail
          obtain ⟨w5, hw5⟩ : ∃ x, w4.alloc (.cells #[.int .i64 e.kind, .int .i64 e.id, .string e.old, .string e.new] 74) = x := ⟨_, rfl⟩
          rw [hw5] at B5 O5
          rw [hw5]
          have bsz := B5.out.size
          clear hw5 y0
          by_cases hfe : e.new = ByteArray.empty
          · have GE := Lib.hid (GN.out hfe)
            have em := bytes_mt.2 hfe
            clear hfe
            go_wp2_with fail
            go_roundw
            case rel => exact ⟨j + 1, L, O, oc, by omega, rfl, by push_cast; rfl, FT.out, by rw [GE.out]; exact O5.out, B5.out⟩
            case measure => simp [intOf]; omega
          · have GE := Lib.hid (GY.out hfe)
            have em : (e.new).toList.isEmpty = false := by rw [Bool.eq_false_iff]; exact fun hh => hfe (bytes_mt.1 hh)
            clear hfe
            go_wp2_with (at_builtin; refine app_ar1 w5 rfl _ _ rfl w.heap.size O L oc _ rfl O5.out ⟨(j : Int) + 1, e.new⟩ rfl (by omega) bsz ?_; intro A' c' w10 p1 p2)
            go_roundw
            case rel => exact ⟨j + 1, L + 1, A', c', by omega, rfl, by push_cast; rfl, FT.out, by rw [GE.out]; (first | exact p1 | (show ArsO _ _ _ _ _ (_ ++ [⟨_, nw p s ((j : Int) + 1)⟩]); rw [GF.out]; exact p1)), B5.out.grown p2 B5.out.size (fun x hx => (OwnR.block O5.out x hx).1)⟩
            case measure => simp [intOf]; omega
        · have NF := Lib.hid (UN.out hto)
          have hto2 : ¬ t.toList = e.old.toList := fun hh => hto (bytes_ext.1 hh)
          have hto3 : (t.toList == e.old.toList) = false := by rw [beq_eq_false_iff_ne]; exact hto2
          clear FT UN hto hf
          go_wp2_with fail
          exact bodyPost_ret (v := .tuple #[.slice none 0 0, .bool false]) (by simp [results, Try.results73, go_sem]) rfl ⟨false, none, 0, 0, rfl, (fun hh => (by cases hh)), B5.out⟩
    · obtain rfl : j = 99 := by omega
      have HF := Lib.hid (show Fit s p from fun e he => HFT.out e he (by have := HP.out.rng e he; omega))
      have GA := Lib.hid (Ga_apps HS.out HP.out HF.out)
      by_cases hL : L ≤ 8
      · have dl : decide ((L : Int) ≤ 8) = true := decide_eq_true (by omega)
        go_wp2_with fail
        exact bodyPost_ret (v := .tuple #[.slice O L oc, .bool true]) (by simp [results, Try.results73, go_sem]) rfl ⟨true, O, L, oc, rfl, fun _ => ⟨HF.out, by have := HLL.out; rw [GA.out] at this; omega, by rw [← GA.out]; exact HO.out⟩, HB.out⟩
      · have dl : decide ((L : Int) ≤ 8) = false := decide_eq_false (by omega)
        go_wp2_with fail
        exact bodyPost_ret (v := .tuple #[.slice O L oc, .bool false]) (by simp [results, Try.results73, go_sem]) rfl ⟨false, O, L, oc, rfl, (fun hh => (by cases hh)), HB.out⟩
end Go.Proofs.Ytcoladhppbknnaa
