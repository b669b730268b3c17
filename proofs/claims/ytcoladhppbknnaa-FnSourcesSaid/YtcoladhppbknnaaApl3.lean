/- Patches composed. -/
import Derived.Test.YtcoladhppbknnaaApl2
import Derived.Deep.Cut
import Derived.Deep.CutBlock
import Derived.Deep.CutRange
namespace Go.Proofs.Ytcoladhppbknnaa
set_option linter.unusedVariables false
set_option linter.unusedSimpArgs false
set_option maxRecDepth 100000
open Go.RowKit Go.Deep
theorem cmpF_both {p q : List Ed} {k : Nat} {a b : Ed} (h1 : edo p ((k : Int) + 1) = some a) (h2 : edo q ((k : Int) + 1) = some b) : cmpF p q k = edL ((k : Int) + 1) a.old b.new := by unfold cmpF; rw [h1, h2]
theorem cmpF_left {p q : List Ed} {k : Nat} {a : Ed} (h1 : edo p ((k : Int) + 1) = some a) (h2 : edo q ((k : Int) + 1) = none) : cmpF p q k = [a] := by unfold cmpF; rw [h1, h2]
theorem cmpF_right {p q : List Ed} {k : Nat} {b : Ed} (h1 : edo p ((k : Int) + 1) = none) (h2 : edo q ((k : Int) + 1) = some b) : cmpF p q k = [b] := by unfold cmpF; rw [h1, h2]
theorem cmpF_none {p q : List Ed} {k : Nat} (h1 : edo p ((k : Int) + 1) = none) (h2 : edo q ((k : Int) + 1) = none) : cmpF p q k = [] := by unfold cmpF; rw [h1, h2]
theorem editOf_yes (A : Option Addr) (n c : Nat) (rs : List Ed) (id : Int) (w : World) (h : Eds w A n c rs) {a : Ed} (ha : edo rs id = some a) :
    Calls Try.prog 76 #[.slice A n c, .int .i64 id] w fun e w' => e = .returned (.tuple #[.agg #[.int .i64 a.kind, .int .i64 a.id, .string a.old, .string a.new], .bool true]) ∧ Below w.heap.size w w' := by
  have := editOf_ok A n c rs id w h
  rw [ha] at this
  exact this
theorem editOf_no (A : Option Addr) (n c : Nat) (rs : List Ed) (id : Int) (w : World) (h : Eds w A n c rs) (ha : edo rs id = none) :
    Calls Try.prog 76 #[.slice A n c, .int .i64 id] w fun e w' => e = .returned (.tuple #[.agg #[.int .i64 0, .int .i64 0, .string ⟨#[]⟩, .string ⟨#[]⟩], .bool false]) ∧ Below w.heap.size w w' := by
  have := editOf_ok A n c rs id w h
  rw [ha] at this
  exact this
theorem edRec (w : World) (e : Ed) : Recs 4 (w.alloc (.cells #[.int .i64 e.kind, .int .i64 e.id, .string e.old, .string e.new] 74)) (some ⟨w.heap.size, 0, none⟩) 1 1 ([e].map Ed.vals) :=
  (ownR_lits (t := 74) (s := 4) (rs := [e].map Ed.vals) w ed4 (by unfold maxLen; simp)).recs
set_option maxHeartbeats 4000000 in
theorem compose_ok (A : Option Addr) (n c : Nat) (p : List Ed) (B : Option Addr) (m d : Nat) (q : List Ed) (w : World) (h : Eds w A n c p) (k : Eds w B m d q) (hp : POk p) (hpl : p.length ≤ 16) (hq : POk q) (hql : q.length ≤ 16)
    (hm : Hid (∀ id a b, edo p id = some a → edo q id = some b → a.new = b.old)) (hlen : Hid ((Gs (cmpF p q) 99).length ≤ 16)) :
    Calls Try.prog 25 #[.slice A n c, .slice B m d] w fun e w' => ∃ O L oc, e = .returned (.tuple #[.slice O L oc, .bool true]) ∧ EdsO w' w.heap.size O L oc (Gs (cmpF p q) 99) ∧ Below w.heap.size w w' := by
  have HA := Lib.hid h
  have HK := Lib.hid k
  have VS := Lib.hid (ValidPatch_any A n c p w h)
  rw [patB_of hp hpl] at VS
  clear h k
  go_enter Try.func25, Try.ntmps25
  go_wp2_with fail
  refine VS.out.mono ?_
  rintro e w1 ⟨rfl, b1⟩
  have B1 := Lib.hid b1
  have VT := Lib.hid (ValidPatch_any B m d q w1 (HK.out.below b1))
  rw [patB_of hq hql] at VT
  clear b1 VS
  go_wp2_with fail
  refine VT.out.mono ?_
  rintro e w2 ⟨rfl, b2⟩
  have O0 := Lib.hid (edsO_lit w2)
  have S2 := Lib.hid (bel_trans B1.out b2).size
  have B2 := Lib.hid (bel_trans (bel_trans B1.out b2) (bel_alloc w2 (.cells #[] 74)))
  clear b2 VT B1
  go_wp2_with fail
  go_loopw [6, 7] (fun s6 t7 wr => ∃ (k L : Nat) (O : Option Addr) (oc : Nat), k ≤ 99 ∧ s6 = .slice O L oc ∧ t7 = .int .i64 ((k : Int) + 1) ∧ EdsO wr w.heap.size O L oc (Gs (cmpF p q) k) ∧ Below w.heap.size w wr) (fun _ t _ => 100 - (intOf t).toNat)
  case atStart => exact ⟨0, 0, _, 0, Nat.zero_le _, rfl, rfl, OwnR.mono O0.out S2.out, B2.out⟩
  case round =>
    obtain ⟨k, L, O, oc, hk, rfl, rfl, ho, hb⟩ := hrel
    have HO := Lib.hid ho
    have HB := Lib.hid hb
    have hL := ho.len
    have hL2 := Gs_len (cmp_one p q) k
    rw [hL] at hL2
    have HL := Lib.hid hL
    clear ho hb O0 B2 hL
    by_cases hlt : k < 99
    · have d0 := decide_eq_true (show (k : Int) + 1 ≤ 99 by omega)
      have ew : IntKind.i64.wrap ((k : Int) + 1 + 1) = (k : Int) + 1 + 1 := IntWalk.i64_in _ (by omega)
      cases h1 : edo p ((k : Int) + 1) with
      | none =>
        cases h2 : edo q ((k : Int) + 1) with
        | none =>
          have NX := Lib.hid (cmpF_none h1 h2)
          have H1 := Lib.hid h1
          have H2 := Lib.hid h2
          clear h1 h2
          go_wp2_with fail
          refine (editOf_no A n c p ((k : Int) + 1) wr (HA.out.below HB.out) H1.out).mono ?_
          rintro e w3 ⟨rfl, b3⟩
          have bA := bel_alloc w3 (.cells #[.int .i64 0, .int .i64 0, .string ⟨#[]⟩, .string ⟨#[]⟩] 74)
          have C8 := Lib.hid (Cs.new w3 [.int .i64 0, .int .i64 0, .string ⟨#[]⟩, .string ⟨#[]⟩] 74)
          have B4 := Lib.hid (bel_trans HB.out (bel_trans b3 bA))
          have O4 := Lib.hid (OwnR.below HO.out (bel_trans b3 bA))
          clear b3 bA
          go_wp2_with fail
          obtain ⟨w4, hw4⟩ : ∃ x, w3.alloc (.cells #[.int .i64 0, .int .i64 0, .string ⟨#[]⟩, .string ⟨#[]⟩] 74) = x := ⟨_, rfl⟩
          rw [hw4] at B4 O4 C8
          try rw [hw4]
          clear hw4
          refine (editOf_no B m d q ((k : Int) + 1) w4 (HK.out.below B4.out) H2.out).mono ?_
          rintro e w5 ⟨rfl, b5⟩
          have bB := bel_alloc w5 (.cells #[.int .i64 0, .int .i64 0, .string ⟨#[]⟩, .string ⟨#[]⟩] 74)
          have C10 := Lib.hid (Cs.new w5 [.int .i64 0, .int .i64 0, .string ⟨#[]⟩, .string ⟨#[]⟩] 74)
          have C8b := Lib.hid ((C8.out.below b5).below bB)
          have B6 := Lib.hid (bel_trans B4.out (bel_trans b5 bB))
          have O6 := Lib.hid (OwnR.below O4.out (bel_trans b5 bB))
          clear b5 bB C8 B4 O4
          have x0 := C8b.out.cell 0 rfl
          have x1 := C8b.out.cell 1 rfl
          have x2 := C8b.out.cell 2 rfl
          have x3 := C8b.out.cell 3 rfl
          have y0 := C10.out.cell 0 rfl
          have y1 := C10.out.cell 1 rfl
          have y2 := C10.out.cell 2 rfl
          have y3 := C10.out.cell 3 rfl
          go_wp2_with fail
          go_roundw
          case rel => exact ⟨k + 1, L, O, oc, by omega, rfl, by push_cast; rfl, by rw [Gs_succ, NX.out, List.append_nil]; exact O6.out, B6.out⟩
          case measure => simp [intOf]; omega
        | some b =>
          have NX := Lib.hid (cmpF_right h1 h2)
          have H1 := Lib.hid h1
          have H2 := Lib.hid h2
          clear h1 h2
          go_wp2_with fail
          refine (editOf_no A n c p ((k : Int) + 1) wr (HA.out.below HB.out) H1.out).mono ?_
          rintro e w3 ⟨rfl, b3⟩
          have bA := bel_alloc w3 (.cells #[.int .i64 0, .int .i64 0, .string ⟨#[]⟩, .string ⟨#[]⟩] 74)
          have C8 := Lib.hid (Cs.new w3 [.int .i64 0, .int .i64 0, .string ⟨#[]⟩, .string ⟨#[]⟩] 74)
          have B4 := Lib.hid (bel_trans HB.out (bel_trans b3 bA))
          have O4 := Lib.hid (OwnR.below HO.out (bel_trans b3 bA))
          clear b3 bA
          go_wp2_with fail
          obtain ⟨w4, hw4⟩ : ∃ x, w3.alloc (.cells #[.int .i64 0, .int .i64 0, .string ⟨#[]⟩, .string ⟨#[]⟩] 74) = x := ⟨_, rfl⟩
          rw [hw4] at B4 O4 C8
          try rw [hw4]
          clear hw4
          refine (editOf_yes B m d q ((k : Int) + 1) w4 (HK.out.below B4.out) H2.out).mono ?_
          rintro e w5 ⟨rfl, b5⟩
          have bB := bel_alloc w5 (.cells #[.int .i64 b.kind, .int .i64 b.id, .string b.old, .string b.new] 74)
          have C10 := Lib.hid (Cs.new w5 [.int .i64 b.kind, .int .i64 b.id, .string b.old, .string b.new] 74)
          have C8b := Lib.hid ((C8.out.below b5).below bB)
          have B6 := Lib.hid (bel_trans B4.out (bel_trans b5 bB))
          have O6 := Lib.hid (OwnR.below O4.out (bel_trans b5 bB))
          clear b5 bB C8 B4 O4
          have x0 := C8b.out.cell 0 rfl
          have x1 := C8b.out.cell 1 rfl
          have x2 := C8b.out.cell 2 rfl
          have x3 := C8b.out.cell 3 rfl
          have y0 := C10.out.cell 0 rfl
          have y1 := C10.out.cell 1 rfl
          have y2 := C10.out.cell 2 rfl
          have y3 := C10.out.cell 3 rfl
          go_upto_region 9 with fail
          obtain ⟨w6, hw6⟩ : ∃ x, w5.alloc (.cells #[.int .i64 b.kind, .int .i64 b.id, .string b.old, .string b.new] 74) = x := ⟨_, rfl⟩
          rw [hw6] at B6 O6 C10 C8b x0 x1 x2 x3 y0 y1 y2 y3
          rw [hw6]
          clear hw6
          have bC := bel_alloc w6 (.cells #[.int .i64 b.kind, .int .i64 b.id, .string b.old, .string b.new] 74)
          have B7 := Lib.hid (bel_trans B6.out bC)
          have RUN := Lib.hid (EdsO.run (A := O) (n := L) (c := oc) (OwnR.below O6.out bC) 28 (some ⟨w6.heap.size, 0, none⟩) 1 1 [b] (edRec w6 b) (by omega) (by omega) (bel_trans B6.out bC).size)
          clear bC
          go_wp2_with (at_builtin; refine app_recs (w6.alloc (.cells #[.int .i64 b.kind, .int .i64 b.id, .string b.old, .string b.new] 74)) rfl _ _ 28 74 rfl O L oc rfl (some ⟨w6.heap.size, 0, none⟩) 1 1 rfl RUN.out ?_; intro A' c' w7 p1 p2)
          go_roundw
          case rel => exact ⟨k + 1, L + 1, A', c', by omega, rfl, by push_cast; rfl, by rw [Gs_succ, NX.out]; exact EdsO.snoc p1, B7.out.grown p2 B7.out.size (fun x hx => (OwnR.block O6.out x hx).1)⟩
          case measure => simp [intOf]; omega
      | some a =>
        cases h2 : edo q ((k : Int) + 1) with
        | none =>
          have NX := Lib.hid (cmpF_left h1 h2)
          have H1 := Lib.hid h1
          have H2 := Lib.hid h2
          clear h1 h2
          go_wp2_with fail
          refine (editOf_yes A n c p ((k : Int) + 1) wr (HA.out.below HB.out) H1.out).mono ?_
          rintro e w3 ⟨rfl, b3⟩
          have bA := bel_alloc w3 (.cells #[.int .i64 a.kind, .int .i64 a.id, .string a.old, .string a.new] 74)
          have C8 := Lib.hid (Cs.new w3 [.int .i64 a.kind, .int .i64 a.id, .string a.old, .string a.new] 74)
          have B4 := Lib.hid (bel_trans HB.out (bel_trans b3 bA))
          have O4 := Lib.hid (OwnR.below HO.out (bel_trans b3 bA))
          clear b3 bA
          go_wp2_with fail
          obtain ⟨w4, hw4⟩ : ∃ x, w3.alloc (.cells #[.int .i64 a.kind, .int .i64 a.id, .string a.old, .string a.new] 74) = x := ⟨_, rfl⟩
          rw [hw4] at B4 O4 C8
          try rw [hw4]
          clear hw4
          refine (editOf_no B m d q ((k : Int) + 1) w4 (HK.out.below B4.out) H2.out).mono ?_
          rintro e w5 ⟨rfl, b5⟩
          have bB := bel_alloc w5 (.cells #[.int .i64 0, .int .i64 0, .string ⟨#[]⟩, .string ⟨#[]⟩] 74)
          have C10 := Lib.hid (Cs.new w5 [.int .i64 0, .int .i64 0, .string ⟨#[]⟩, .string ⟨#[]⟩] 74)
          have C8b := Lib.hid ((C8.out.below b5).below bB)
          have B6 := Lib.hid (bel_trans B4.out (bel_trans b5 bB))
          have O6 := Lib.hid (OwnR.below O4.out (bel_trans b5 bB))
          clear b5 bB C8 B4 O4
          have x0 := C8b.out.cell 0 rfl
          have x1 := C8b.out.cell 1 rfl
          have x2 := C8b.out.cell 2 rfl
          have x3 := C8b.out.cell 3 rfl
          have y0 := C10.out.cell 0 rfl
          have y1 := C10.out.cell 1 rfl
          have y2 := C10.out.cell 2 rfl
          have y3 := C10.out.cell 3 rfl
          go_upto_region 9 with fail
          obtain ⟨w6, hw6⟩ : ∃ x, w5.alloc (.cells #[.int .i64 0, .int .i64 0, .string ⟨#[]⟩, .string ⟨#[]⟩] 74) = x := ⟨_, rfl⟩
          rw [hw6] at B6 O6 C10 C8b x0 x1 x2 x3 y0 y1 y2 y3
          rw [hw6]
          clear hw6
          have bC := bel_alloc w6 (.cells #[.int .i64 a.kind, .int .i64 a.id, .string a.old, .string a.new] 74)
          have B7 := Lib.hid (bel_trans B6.out bC)
          have RUN := Lib.hid (EdsO.run (A := O) (n := L) (c := oc) (OwnR.below O6.out bC) 28 (some ⟨w6.heap.size, 0, none⟩) 1 1 [a] (edRec w6 a) (by omega) (by omega) (bel_trans B6.out bC).size)
          clear bC
          go_wp2_with (at_builtin; refine app_recs (w6.alloc (.cells #[.int .i64 a.kind, .int .i64 a.id, .string a.old, .string a.new] 74)) rfl _ _ 28 74 rfl O L oc rfl (some ⟨w6.heap.size, 0, none⟩) 1 1 rfl RUN.out ?_; intro A' c' w7 p1 p2)
          go_roundw
          case rel => exact ⟨k + 1, L + 1, A', c', by omega, rfl, by push_cast; rfl, by rw [Gs_succ, NX.out]; exact EdsO.snoc p1, B7.out.grown p2 B7.out.size (fun x hx => (OwnR.block O6.out x hx).1)⟩
          case measure => simp [intOf]; omega
        | some b =>
          have NX := Lib.hid (cmpF_both h1 h2)
          have H1 := Lib.hid h1
          have H2 := Lib.hid h2
          have HM := Lib.hid (hm.out _ a b h1 h2)
          clear h1 h2
          go_wp2_with fail
          refine (editOf_yes A n c p ((k : Int) + 1) wr (HA.out.below HB.out) H1.out).mono ?_
          rintro e w3 ⟨rfl, b3⟩
          have bA := bel_alloc w3 (.cells #[.int .i64 a.kind, .int .i64 a.id, .string a.old, .string a.new] 74)
          have C8 := Lib.hid (Cs.new w3 [.int .i64 a.kind, .int .i64 a.id, .string a.old, .string a.new] 74)
          have B4 := Lib.hid (bel_trans HB.out (bel_trans b3 bA))
          have O4 := Lib.hid (OwnR.below HO.out (bel_trans b3 bA))
          clear b3 bA
          go_wp2_with fail
          obtain ⟨w4, hw4⟩ : ∃ x, w3.alloc (.cells #[.int .i64 a.kind, .int .i64 a.id, .string a.old, .string a.new] 74) = x := ⟨_, rfl⟩
          rw [hw4] at B4 O4 C8
          try rw [hw4]
          clear hw4
          refine (editOf_yes B m d q ((k : Int) + 1) w4 (HK.out.below B4.out) H2.out).mono ?_
          rintro e w5 ⟨rfl, b5⟩
          have bB := bel_alloc w5 (.cells #[.int .i64 b.kind, .int .i64 b.id, .string b.old, .string b.new] 74)
          have C10 := Lib.hid (Cs.new w5 [.int .i64 b.kind, .int .i64 b.id, .string b.old, .string b.new] 74)
          have C8b := Lib.hid ((C8.out.below b5).below bB)
          have B6 := Lib.hid (bel_trans B4.out (bel_trans b5 bB))
          have O6 := Lib.hid (OwnR.below O4.out (bel_trans b5 bB))
          clear b5 bB C8 B4 O4
          have x0 := C8b.out.cell 0 rfl
          have x1 := C8b.out.cell 1 rfl
          have x2 := C8b.out.cell 2 rfl
          have x3 := C8b.out.cell 3 rfl
          have y0 := C10.out.cell 0 rfl
          have y1 := C10.out.cell 1 rfl
          have y2 := C10.out.cell 2 rfl
          have y3 := C10.out.cell 3 rfl
          go_upto_region 9 with fail
          obtain ⟨w6, hw6⟩ : ∃ x, w5.alloc (.cells #[.int .i64 b.kind, .int .i64 b.id, .string b.old, .string b.new] 74) = x := ⟨_, rfl⟩
          rw [hw6] at B6 O6 C10 C8b x0 x1 x2 x3 y0 y1 y2 y3
          rw [hw6]
          clear hw6
          rw [← HM.out] at y2
          go_wp2_with fail
          refine (edit_ok ((k : Int) + 1) a.old b.new w6).mono ?_
          rintro e w8 ⟨Q, z, qd, rfl, hz, hq', b8⟩
          have m1 := edL_len ((k : Int) + 1) a.old b.new
          rw [← hz] at m1
          have B7 := Lib.hid (bel_trans B6.out b8)
          have O7 := Lib.hid (OwnR.below O6.out b8)
          have RUN := Lib.hid (EdsO.run (A := O) (n := L) (c := oc) O7.out 28 Q z qd _ hq' (by omega) (by omega) B7.out.size)
          clear hz hq' b8
          go_wp2_with (at_builtin; refine app_recs w8 rfl _ _ 28 74 rfl O L oc rfl Q z qd rfl RUN.out ?_; intro A' c' w7 p1 p2)
          go_roundw
          case rel => exact ⟨k + 1, L + z, A', c', by omega, rfl, by push_cast; rfl, by rw [Gs_succ, NX.out]; exact EdsO.snoc p1, B7.out.grown p2 B7.out.size (fun x hx => (OwnR.block O6.out x hx).1)⟩
          case measure => simp [intOf]; omega
    · obtain rfl : k = 99 := by omega
      have hl16 := hlen.out
      rw [HL.out] at hl16
      have d1 : decide ((16 : Int) < (L : Int)) = false := decide_eq_false (by omega)
      go_wp2_with fail
      go_ret2
      exact ⟨O, L, oc, rfl, HO.out, HB.out⟩
end Go.Proofs.Ytcoladhppbknnaa
