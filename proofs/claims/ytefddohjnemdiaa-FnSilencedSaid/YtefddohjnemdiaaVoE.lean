/- endsFrom: the search by breadth. -/
import Derived.Test.YtefddohjnemdiaaVoV
import Derived.Deep.CutRange
namespace Go.Proofs.Ytefddohjnemdiaa
set_option linter.unusedVariables false
set_option linter.unusedSimpArgs false
set_option maxRecDepth 100000
open Go.RowKit Go.Deep
def lenV : Value → Nat
  | .slice _ n _ => n
  | _ => 0
theorem lenV_slice (A : Option Addr) (n c : Nat) : lenV (.slice A n c) = n := rfl
/-- Two blocks that are not the same. -/
def Ap (a b : Option Nat) : Prop := ∀ x, a = some x → b ≠ some x
theorem Ap.symm {a b : Option Nat} (h : Ap a b) : Ap b a := fun x hx e => h x e hx
theorem Ap.step {w : World} {v v' : Value} {b : Option Nat} (h : Ap v.ownBlock b) (hn : NewBlk w v v') (hb : ∀ x, b = some x → x < w.heap.size) : Ap v'.ownBlock b := by
  rcases hn with e | ⟨g, e, hg⟩
  · rw [e]; exact h
  · intro x hx e2
    rw [e] at hx
    injection hx with hx
    have := hb x e2
    omega
theorem OwnI.ap {w w' : World} {base : Nat} {A : Option Addr} {n c : Nat} {zs : List Int} {row : Option Nat} (h : OwnI w base A n c zs) (hg : w.grownBy w' row) (hne : Ap (Value.slice A n c).ownBlock row) : OwnI w' base A n c zs := by
  refine h.kept hg ?_
  cases hv : (Value.slice A n c).ownBlock with
  | none => exact .inl rfl
  | some x => exact .inr (fun e => hne x hv e.symm)
structure BW (V : List Vo) (av : List Nat) (m base : Nat) (W w : World) (SA : Option Addr) (sl sc : Nat) (OA : Option Addr) (ol oc : Nat) (QA : Option Addr) (ql qc : Nat) (vis opn out : List Nat) : Prop where
  bi : BI V av m vis opn out
  s : OwnI w base SA sl sc (zr (av ++ vis))
  o : OwnI w base OA ol oc (zr out)
  q : QW base w QA ql qc (zr opn)
  so : Ap (Value.slice SA sl sc).ownBlock (Value.slice OA ol oc).ownBlock
  sq : Ap (Value.slice SA sl sc).ownBlock (Value.slice QA ql qc).ownBlock
  oq : Ap (Value.slice OA ol oc).ownBlock (Value.slice QA ql qc).ownBlock
  b : Below base W w
theorem endsFrom_ok (V : List Vo) (ok : VOk V) (m : Nat) (hm : m < V.length) (av : List Nat) (hav : av.length ≤ 12) (A : Option Addr) (n c : Nat) (B : Option Addr) (q d : Nat) (w : World) (hV : VoV w A n c V) (hB : Ints .i64 w B q d (zr av)) :
    Calls Try.prog 25 #[.slice A n c, .int .i64 m, .slice B q d] w fun e w' => ∃ O L oc, e = .returned (.slice O L oc) ∧ (L = 0 ↔ ¬ Rch V av m) ∧ L ≤ 12 ∧ Below w.heap.size w w' := by
  have HV := Lib.hid hV
  have hl : V.length = n := hV.1
  have hq : av.length = q := by have := hB.1; rwa [zr_len] at this
  have n12 := ok.n12
  have OK := Lib.hid ok
  clear ok hV
  go_enter Try.func25, Try.ntmps25
  go_wp2_with fail
  refine (clone64_any B q d (zr av) w hB (by omega)).mono ?_
  rintro e w1 ⟨SA, sc, rfl, s1, b1⟩
  have S1 := Lib.hid s1
  have B1 := Lib.hid b1
  clear s1 b1
  go_wp2_with fail
  have O0 := ownI_lit w1
  have k1 := bel_alloc w1 (.cells #[] 2)
  have k2 := bel_alloc (w1.alloc (.cells #[] 2)) (.cells #[.int .i64 m] 2)
  have Q0 := QW.lit (w1.alloc (.cells #[] 2)) (m : Int) (ints_of_zr (r := [m]) (by simp; omega) _ (by simp [zr]))
  have e1 : (w1.alloc (.cells #[] 2)).heap.size = w1.heap.size + 1 := by simp
  rw [e1] at Q0
  have sb := B1.out.size
  have BW0 := Lib.hid (show BW V av m w.heap.size w ((w1.alloc (.cells #[] 2)).alloc (.cells #[.int .i64 m] 2)) SA q sc (some ⟨w1.heap.size, 0, none⟩) 0 0 (some ⟨w1.heap.size + 1, 0, none⟩) 1 1 [] [m] [] from
    ⟨BI.start hm, by rw [List.append_nil]; exact (S1.out.below k1).below k2, (O0.below k2).mono sb, ⟨Q0.len, Q0.le, Q0.top, Q0.wf, by
      obtain ⟨g, off, e, h1, h2⟩ := Q0.at'
      exact ⟨g, off, e, by omega, h2⟩⟩, fun x hx e => by
      have := (S1.out.block x hx).2
      simp [Value.ownBlock] at e
      omega, fun x hx e => by
      have := (S1.out.block x hx).2
      simp [Value.ownBlock] at e
      omega, fun x hx e => by
      simp [Value.ownBlock] at e hx
      omega, bel_trans B1.out (bel_trans k1 k2)⟩)
  obtain ⟨w2, hw2⟩ : ∃ x, (w1.alloc (.cells #[] 2)).alloc (.cells #[.int .i64 m] 2) = x := ⟨_, rfl⟩
  rw [hw2] at BW0
  rw [hw2]
  clear hw2 O0 k1 k2 Q0 e1 S1 B1
  go_loopw [7, 8, 9] (fun s7 s8 s9 wr => ∃ SA sl sc OA ol oc QA ql qc vis opn out, s7 = .slice SA sl sc ∧ s8 = .slice OA ol oc ∧ s9 = .slice QA ql qc ∧ BW V av m w.heap.size w wr SA sl sc OA ol oc QA ql qc vis opn out)
    (fun s7 _ s9 _ => 5 * (n + q - lenV s7) + lenV s9)
  case atStart => exact ⟨_, _, _, _, _, _, _, _, _, _, _, _, rfl, rfl, rfl, BW0.out⟩
  case round =>
    obtain ⟨SA, sl, sc, OA, ol, oc, QA, ql, qc, vis, opn, out, rfl, rfl, rfl, hbw⟩ := hrel
    have HB := Lib.hid hbw
    have lq := hbw.q.len
    rw [zr_len] at lq
    have ls := hbw.s.len
    rw [zr_len, List.length_append] at ls
    have lo := hbw.o.len
    rw [zr_len] at lo
    have lv := hbw.bi.len
    have lu := hbw.bi.lu
    have lop := hbw.bi.lo
    clear hbw BW0
    rcases opn with _ | ⟨o, opn⟩
    · obtain rfl : 0 = ql := by simpa using lq
      have d0 : decide ((0 : Int) < ((0 : Nat) : Int)) = false := by decide
      go_wp2_with fail
      refine (sort64_any w.heap.size OA ol oc (zr out) wr HB.out.o (by omega)).mono ?_
      rintro e w3 ⟨rfl, o3, g3⟩
      have B3 := Lib.hid (HB.out.b.grown g3 HB.out.b.size (fun x hx => (HB.out.o.block x hx).1))
      have DN := Lib.hid HB.out.bi.done
      clear o3 g3
      go_wp2_with fail
      go_ret
      refine ⟨OA, ol, oc, rfl, ?_, by omega, B3.out⟩
      rw [← DN.out]
      constructor
      · intro e
        exact List.eq_nil_of_length_eq_zero (by omega)
      · rintro rfl
        simpa using lo.symm
    · obtain ⟨u, rfl⟩ : ∃ u, ql = u + 1 := ⟨opn.length, by simp at lq; omega⟩
      have d0 : decide ((0 : Int) < ((u + 1 : Nat) : Int)) = true := decide_eq_true (by omega)
      obtain ⟨gq, oq, rfl, hgq, hgq2, hcq, _⟩ := HB.out.q.at'
      have c0 := hcq 0 (o : Int) (by simp [zr])
      rw [Nat.add_zero] at c0
      have z1 : (0 : Int) < ((u + 1 : Nat) : Int) := by omega
      have qc1 := HB.out.q.le
      have z2 : (1 : Int) ≤ (qc : Int) := by omega
      have z3 : (1 : Int) ≤ ((u + 1 : Nat) : Int) := by omega
      have ho : o < n := by have := HB.out.bi.ol o (List.mem_cons_self ..); omega
      have TL := Lib.hid HB.out.q.tail
      have SI := Lib.hid HB.out.s.ints
      have lqn : opn.length = u := by simpa using lq
      have ub : u ≤ 100 := by simp at lop; omega
      clear hcq lop
      go_upto_region 5 with fail
      go_cut [9] from 22 to 24 (fun s wc => ∃ off c', s = .slice (some ⟨gq, off, none⟩) u c' ∧ QW w.heap.size wr (some ⟨gq, off, none⟩) u c' (zr opn) ∧ wc = wr)
      case first =>
        by_cases hq1 : qc = 1
        · subst hq1
          obtain rfl : u = 0 := by omega
          obtain rfl : opn = [] := List.eq_nil_of_length_eq_zero lqn
          go_wp2_with fail
          go_meet
          case rel => exact ⟨_, _, rfl, ⟨rfl, Nat.le_refl _, by unfold maxLen; omega, by simp [zr], gq, _, rfl, hgq, hgq2, by simp [zr], fun j hj => by omega⟩, rfl⟩
        · go_wp2_with fail
          go_meet
          case rel => exact ⟨_, _, rfl, TL.out, rfl⟩
      case rest =>
        obtain ⟨off', c', rfl, tl, rfl⟩ := hcut
        have TL := Lib.hid tl
        clear tl c0 z1 z2 z3
        by_cases hin : o ∈ av ++ vis
        · have CT := Lib.hid (contains_ok SA sl sc (av ++ vis) o wc SI.out)
          rw [decide_eq_true hin] at CT
          go_wp2_with fail
          refine CT.out.mono ?_
          rintro e w3 ⟨rfl, rfl⟩
          go_wp2_with fail
          go_roundw
          case rel => exact ⟨SA, sl, sc, OA, ol, oc, _, u, c', vis, opn, out, rfl, rfl, rfl, ⟨HB.out.bi.skip hin, HB.out.s, HB.out.o, TL.out, HB.out.so, HB.out.sq, HB.out.oq, HB.out.b⟩⟩
          case measure => simp only [lenV_slice]; omega
        · have CT := Lib.hid (contains_ok SA sl sc (av ++ vis) o wc SI.out)
          rw [decide_eq_false hin] at CT
          obtain ⟨b, off, T, td, rfl, hbw, hc0w, hc1w, tiw⟩ := HV.out.at ho
          have hc0 := (HB.out.b.cell (p := ⟨b, off + o * 2, none⟩) hbw).trans hc0w
          have HC0 := Lib.hid hc0w
          have HC1 := Lib.hid hc1w
          have TIW := Lib.hid tiw
          have HN := Lib.hid hin
          have o0 : (0 : Int) ≤ (o : Int) := by omega
          have o1 : (o : Int) < (n : Int) := by omega
          have l4 := OK.out.l4 o
          have sb2 := HB.out.b.size
          clear tiw hin hc0 hc0w hc1w
          cases hsp : spk V o
          · rw [hsp] at HC0
            have HSP := Lib.hid hsp
            clear hsp
            go_wp2_with fail
            refine CT.out.mono ?_
            rintro e w3 ⟨rfl, rfl⟩
            go_wp2_with (at_builtin; first
              | (refine app_int_at wc rfl _ _ rfl w.heap.size SA sl sc _ rfl HB.out.s (o : Int) (by omega) (by omega) rfl (by omega) sb2 ?_
                 intro S3 sc3 w7 p1 p2 p3
                 have B7 := Lib.hid (HB.out.b.grown p2 HB.out.b.size (fun x hx => (HB.out.s.block x hx).1))
                 have hc07 := (B7.out.cell (p := ⟨b, off + o * 2, none⟩) hbw).trans HC0.out
                 have hc17 := (B7.out.cell (p := ⟨b, off + o * 2 + 1, none⟩) hbw).trans HC1.out
                 have TL7 := Lib.hid (TL.out.kept p2 (fun x hx e => HB.out.sq x e hx))
                 have TI7 := Lib.hid (TIW.out.below B7.out))
              | (refine app_q w7 rfl _ _ rfl w.heap.size _ u c' (zr opn) rfl TL7.out T _ td (zr (trs V o)) rfl TI7.out (by omega) (by omega) B7.out.size ?_; intro Q3 qc3 w8 r1 r2 r3))
            go_roundw
            case rel =>
              have k1 := HB.out.sq.step p3 (fun x hx => (HB.out.q.block x hx).2)
              have k2 := HB.out.so.step p3 (fun x hx => (HB.out.o.block x hx).2)
              have o7 := HB.out.o.ap p2 HB.out.so.symm
              refine ⟨S3, sl + 1, sc3, OA, ol, oc, Q3, u + (trs V o).length, qc3, vis ++ [o], opn ++ trs V o, out, rfl, rfl, rfl, ⟨HB.out.bi.goes OK.out HN.out HSP.out, ?_, o7.ap r2 HB.out.oq, by rw [zr_app]; exact r1, k2, (k1.symm.step r3 (fun x hx => (p1.block x hx).2)).symm, (HB.out.oq.symm.step r3 (fun x hx => (o7.block x hx).2)).symm, B7.out.grown r2 B7.out.size (fun x hx => (HB.out.q.block x hx).1)⟩⟩
              rw [← List.append_assoc, zr_app, zr_one]
              exact p1.ap r2 k1
            case measure =>
              have := (HB.out.bi.goes OK.out HN.out HSP.out).len
              rw [List.length_append] at this
              simp only [lenV_slice, List.length_singleton] at *
              omega
          · rw [hsp] at HC0
            have HSP := Lib.hid hsp
            clear hsp
            go_wp2_with fail
            refine CT.out.mono ?_
            rintro e w3 ⟨rfl, rfl⟩
            go_wp2_with (at_builtin; first
              | (refine app_int_at wc rfl _ _ rfl w.heap.size SA sl sc _ rfl HB.out.s (o : Int) (by omega) (by omega) rfl (by omega) sb2 ?_
                 intro S3 sc3 w7 p1 p2 p3
                 have B7 := Lib.hid (HB.out.b.grown p2 HB.out.b.size (fun x hx => (HB.out.s.block x hx).1))
                 have hc07 := (B7.out.cell (p := ⟨b, off + o * 2, none⟩) hbw).trans HC0.out
                 have HO7 := Lib.hid (HB.out.o.ap p2 HB.out.so.symm))
              | (refine app_int_at w7 rfl _ _ rfl w.heap.size OA ol oc _ rfl HO7.out (o : Int) (by omega) (by omega) rfl (by omega) B7.out.size ?_; intro O3 oc3 w8 r1 r2 r3))
            go_roundw
            case rel =>
              have k1 := HB.out.sq.step p3 (fun x hx => (HB.out.q.block x hx).2)
              have k2 := HB.out.so.step p3 (fun x hx => (HB.out.o.block x hx).2)
              have q7 := TL.out.kept p2 (fun x hx e => HB.out.sq x e hx)
              refine ⟨S3, sl + 1, sc3, O3, ol + 1, oc3, _, u, c', vis ++ [o], opn, out ++ [o], rfl, rfl, rfl, ⟨HB.out.bi.speaks HN.out HSP.out, ?_, by rw [zr_app, zr_one]; exact r1, q7.kept r2 (fun x hx e => HB.out.oq x e hx), (k2.symm.step r3 (fun x hx => (p1.block x hx).2)).symm, k1, HB.out.oq.step r3 (fun x hx => (q7.block x hx).2), B7.out.grown r2 B7.out.size (fun x hx => (HO7.out.block x hx).1)⟩⟩
              rw [← List.append_assoc, zr_app, zr_one]
              exact p1.ap r2 k2
            case measure => simp only [lenV_slice]; omega
end Go.Proofs.Ytefddohjnemdiaa
