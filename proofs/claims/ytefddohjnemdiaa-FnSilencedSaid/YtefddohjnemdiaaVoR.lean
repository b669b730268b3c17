/- Voices that the call itself made: drawn, copied, silenced. -/
import Derived.Test.YtefddohjnemdiaaVoC
import Derived.Test.YtefddohjnemdiaaBo
import Derived.Test.YtefddohjnemdiaaB10
namespace Go.Proofs.Ytefddohjnemdiaa
set_option linter.unusedVariables false
set_option linter.unusedSimpArgs false
set_option maxRecDepth 100000
open Go.RowKit Go.Deep
def VoRs (w : World) (base : Nat) (V : List Vo) (rs : List (List Value)) : Prop :=
  rs.length = V.length ∧ ∀ (j : Nat) (v : Vo), V[j]? = some v → ∃ (T : Option Addr) (d : Nat), rs[j]? = some [.bool v.sp, .slice T v.tr.length d] ∧ OwnI w base T v.tr.length d (zr v.tr)
/-- Voices that the call made. -/
def VoW (w : World) (base : Nat) (A : Option Addr) (n c : Nat) (V : List Vo) : Prop := ∃ rs, OwnR 29 2 w base A n c rs ∧ VoRs w base V rs
section
variable {w w' : World} {base n c : Nat} {A : Option Addr} {V : List Vo}
theorem VoW.len (h : VoW w base A n c V) : V.length = n := by
  obtain ⟨rs, h1, h2, _⟩ := h
  have := h1.2.1
  omega
theorem VoW.block (h : VoW w base A n c V) : ∀ x, (Value.slice A n c).ownBlock = some x → base ≤ x ∧ x < w.heap.size := by
  obtain ⟨rs, h1, _⟩ := h
  exact h1.block
theorem VoW.voV (h : VoW w base A n c V) : VoV w A n c V := by
  have hl := h.len
  obtain ⟨rs, h1, h2, h3⟩ := h
  refine ⟨hl, h1.cap.1, h1.cap.2, fun hn => ?_⟩
  obtain ⟨g, rfl, hg1, hg2⟩ := h1.form hn
  refine ⟨g, 0, rfl, hg2, fun j v hv => ?_⟩
  obtain ⟨T, d, hr, ho⟩ := h3 j v hv
  have c0 := h1.cell (j := j) (i := 0) hr rfl
  have c1 := h1.cell (j := j) (i := 1) hr rfl
  refine ⟨T, d, ?_, ?_, ho.ints⟩
  · rw [Nat.zero_add]; exact c0
  · rw [Nat.zero_add]; exact c1
theorem VoRs.kept {rs : List (List Value)} {row : Option Nat} (h : VoRs w base V rs) (hg : w.grownBy w' row) (hne : ∀ T l d zs, OwnI w base T l d zs → (Value.slice T l d).ownBlock = none ∨ (Value.slice T l d).ownBlock ≠ row) : VoRs w' base V rs := by
  refine ⟨h.1, fun j v hv => ?_⟩
  obtain ⟨T, d, hr, ho⟩ := h.2 j v hv
  exact ⟨T, d, hr, ho.kept hg (hne _ _ _ _ ho)⟩
theorem ne_lt {v : Value} {base g : Nat} (h : ∀ x, v.ownBlock = some x → base ≤ x) (hg : g < base) : v.ownBlock = none ∨ v.ownBlock ≠ some g := by
  cases hv : v.ownBlock with
  | none => exact .inl rfl
  | some x => exact .inr (fun e => by injection e with e; have := h x hv; omega)
/-- A block below base is written. -/
theorem VoW.src {g : Nat} (h : VoW w base A n c V) (hg : w.grownBy w' (some g)) (hb : g < base) : VoW w' base A n c V := by
  obtain ⟨rs, h1, h2⟩ := h
  exact ⟨rs, h1.kept hg (ne_lt (fun x hx => (h1.block x hx).1) hb), h2.kept hg (fun T l d zs ho => ne_lt (fun x hx => (ho.block x hx).1) hb)⟩
theorem VoW.below (h : VoW w base A n c V) (hb : Below w.heap.size w w') : VoW w' base A n c V := by
  obtain ⟨rs, h1, h2⟩ := h
  refine ⟨rs, h1.below hb, h2.1, fun j v hv => ?_⟩
  obtain ⟨T, d, hr, ho⟩ := h2.2 j v hv
  exact ⟨T, d, hr, ho.below hb⟩
/-- The call's own variable is written. -/
theorem VoW.var {g : Nat} {t : TypeId} {u0 u1 : Value} (h : VoW w base A n c V) (b : BO t w g u0 u1) (hg : w.grownBy w' (some g)) (hne : ∀ x, (Value.slice A n c).ownBlock = some x → x ≠ g) (h2 : 2 ≠ t) : VoW w' base A n c V := by
  obtain ⟨rs, h1, h3⟩ := h
  refine ⟨rs, h1.kept hg ?_, h3.kept hg (fun T l d zs ho => own_ne ho.1 b h2)⟩
  cases hv : (Value.slice A n c).ownBlock with
  | none => exact .inl rfl
  | some x => exact .inr (fun e => by injection e with e; exact hne x hv e)
/-- An own slice of integers that is none of the rows' is written. -/
theorem VoW.row {row : Option Nat} (h : VoW w base A n c V) (hg : w.grownBy w' row) (h1 : (Value.slice A n c).ownBlock = none ∨ (Value.slice A n c).ownBlock ≠ row)
    (h2 : ∀ (j : Nat) (v : Vo) (T : Option Addr) (d : Nat), V[j]? = some v → OwnI w base T v.tr.length d (zr v.tr) → ∀ x, row = some x → w.heap.size ≤ x) : VoW w' base A n c V := by
  obtain ⟨rs, k1, k2⟩ := h
  refine ⟨rs, k1.kept hg h1, k2.1, fun j v hv => ?_⟩
  obtain ⟨T, d, hr, ho⟩ := k2.2 j v hv
  refine ⟨T, d, hr, ho.kept hg ?_⟩
  cases hv2 : (Value.slice T v.tr.length d).ownBlock with
  | none => exact .inl rfl
  | some x => exact .inr (fun e => by have := h2 j v T d hv ho x e.symm; have := (ho.block x hv2).2; omega)
theorem VoW.mono {b2 : Nat} (h : VoW w base A n c V) (hb : b2 ≤ base) : VoW w b2 A n c V := by
  obtain ⟨rs, h1, h2, h3⟩ := h
  refine ⟨rs, h1.mono hb, h2, fun j v hv => ?_⟩
  obtain ⟨T, d, hr, ho⟩ := h3 j v hv
  exact ⟨T, d, hr, ho.mono hb⟩
theorem VoRs.snoc {rs : List (List Value)} (h : VoRs w base V rs) {v : Vo} {T : Option Addr} {d : Nat} (ho : OwnI w base T v.tr.length d (zr v.tr)) : VoRs w base (V ++ [v]) (rs ++ [[.bool v.sp, .slice T v.tr.length d]]) := by
  refine ⟨by simp [h.1], fun j x hx => ?_⟩
  by_cases hj : j < V.length
  · rw [List.getElem?_append_left hj] at hx
    obtain ⟨T', d', hr, ho'⟩ := h.2 j x hx
    exact ⟨T', d', by rw [List.getElem?_append_left (by rw [h.1]; exact hj)]; exact hr, ho'⟩
  · rw [List.getElem?_append_right (by omega)] at hx
    have e : j - V.length = 0 := by have := (List.getElem?_eq_some_iff.1 hx).1; simp at this; omega
    rw [e] at hx
    simp at hx
    subst hx
    exact ⟨T, d, by rw [List.getElem?_append_right (by have := h.1; omega), h.1, e]; rfl, ho⟩
theorem voW_lit (w : World) : VoW (w.alloc (.cells #[] 29)) w.heap.size (some ⟨w.heap.size, 0, none⟩) 0 0 [] :=
  ⟨[], ownR_lits (rs := []) w (by simp) (by unfold maxLen; simp), rfl, by simp⟩
theorem info_voice : (Try.prog.info? 29).map (fun i => (i.zero, i.size, i.bytes)) = some (some (.agg #[.bool false, .slice none 0 0]), 2, 32) := by kernel_rfl
/-- append of one voice. -/
theorem app_voice {ops : Array Oper} {rest : List Oper} {o : Oper} {a : Act} {Q : Exit → Act → World → Prop} (w : World) (hgd : o.guard = none) (s x : Operand)
    (ho : o.op = .call { callee := .builtin .append, args := #[s, x], argTypes := #[24, 24] }) (base : Nat)
    (A : Option Addr) (n c : Nat) (V : List Vo) (hs : a.eval s = .slice A n c) (hown : VoW w base A n c V) (v : Vo) (T : Option Addr) (l d : Nat) (hl : v.tr.length = l) (hv : OwnI w base T l d (zr v.tr))
    (hx : a.eval x = .slice (some ⟨w.heap.size, 0, none⟩) 1 1) (hn : n ≤ 1048576) (hbase : base ≤ w.heap.size)
    (h : ∀ A' c' w1, VoW w1 base A' (n + 1) c' (V ++ [v]) → w.grownBy w1 (Value.slice A n c).ownBlock → NewBlk w (.slice A n c) (.slice A' (n + 1) c') → wpList Try.prog ops Q rest (a.put o.dst (.slice A' (n + 1) c')) w1) :
    wpList Try.prog ops Q (o :: rest) a (w.alloc (.cells #[.bool v.sp, .slice T l d] 29)) := by
  obtain ⟨i0, hi, hz0, hz1, hz2⟩ := info_parts info_voice
  obtain ⟨rs, h1, h2⟩ := hown
  subst hl
  refine app_rec w hgd s x _ _ ho base i0 _ 2 32 Try.underlying24 hi hz0 hz1 hz2 rfl (by omega) A n c rs hs h1 [.bool v.sp, .slice T v.tr.length d] rfl (by intro u hu; simp at hu; rcases hu with rfl | rfl <;> rfl) hx (by unfold maxLen; omega) (by omega) hbase ?_
  intro A' c' w1 p1 p2 p3
  refine h A' c' w1 ⟨_, p1, ?_⟩ p2 p3
  exact (h2.kept p2 (fun T l d zs ho => own_ne ho.1 h1.1 (by decide))).snoc (hv.kept p2 (own_ne hv.1 h1.1 (by decide)))
end
/-- What has been drawn of voices. -/
def VT (n : Nat) (V : List Vo) : Prop := ∀ j v, V[j]? = some v → (∀ t ∈ v.tr, t < n ∧ t ≠ j) ∧ v.tr.Nodup ∧ v.tr.length ≤ 4
theorem VT.snoc {n : Nat} {V : List Vo} (h : VT n V) {v : Vo} (h1 : ∀ t ∈ v.tr, t < n ∧ t ≠ V.length) (h2 : v.tr.Nodup) (h3 : v.tr.length ≤ 4) : VT n (V ++ [v]) := by
  intro j x hx
  by_cases hj : j < V.length
  · rw [List.getElem?_append_left hj] at hx
    exact h j x hx
  · rw [List.getElem?_append_right (by omega)] at hx
    have e : j - V.length = 0 := by have := (List.getElem?_eq_some_iff.1 hx).1; simp at this; omega
    rw [e] at hx
    simp at hx
    subst hx
    have : j = V.length := by
      rcases Nat.lt_or_ge j V.length with h | h
      · exact absurd h hj
      · omega
    subst this
    exact ⟨h1, h2, h3⟩
theorem VT.ok {V : List Vo} (h : VT V.length V) (h1 : 1 ≤ V.length) (h2 : V.length ≤ 12) : VOk V := by
  have hat : ∀ i, trs V i = [] ∨ ∃ v, V[i]? = some v ∧ trs V i = v.tr := by
    intro i
    cases hv : V[i]? with
    | none => exact .inl (by unfold trs; rw [hv]; rfl)
    | some v => exact .inr ⟨v, rfl, trs_at hv⟩
  refine ⟨h1, h2, fun i t ht => ?_, fun i t ht => ?_, fun i => ?_, fun i => ?_⟩
  · rcases hat i with e | ⟨v, hv, e⟩
    · rw [e] at ht; cases ht
    · rw [e] at ht; exact ((h i v hv).1 t ht).1
  · rcases hat i with e | ⟨v, hv, e⟩
    · rw [e] at ht; cases ht
    · rw [e] at ht; exact ((h i v hv).1 t ht).2
  · rcases hat i with e | ⟨v, hv, e⟩
    · rw [e]; exact List.nodup_nil
    · rw [e]; exact (h i v hv).2.1
  · rcases hat i with e | ⟨v, hv, e⟩
    · rw [e]; simp
    · rw [e]; exact (h i v hv).2.2
def DrawnVo (g : Nat) (An : Option Addr) (nn cn : Nat) (bs : List Int) (n : Nat) (w : World) (e : Ending) (w' : World) : Prop :=
  ∃ (V : List Vo) (A : Option Addr) (c : Nat), e = .returned (.slice A n c) ∧ VT n V ∧ VoW w' w.heap.size A n c V ∧ w.grownBy w' (some g)
set_option maxHeartbeats 4000000 in
theorem l02DrawOk_any (n : Nat) (hn : 1 ≤ n) (hn2 : n ≤ 12) (g : Nat) (An : Option Addr) (nn cn : Nat) (bs : List Int) (k : Nat) (hk : k ≤ 1000) (w : World) (h : Src w g An nn cn bs k) :
    Calls Try.prog 18 #[.pointer (some ⟨g, 0, none⟩), .int .i64 n] w (DrawnVo g An nn cn bs n w) := by
  have gl := h.lt
  have ba := bel_alloc w (.cells #[] 29)
  have V0 := Lib.hid (voW_lit w)
  have S0 := Lib.hid (h.kept ba)
  have G0 := Lib.hid (show w.grownBy (w.alloc (.cells #[] 29)) (some g) from World.grownBy_alloc _ _ _)
  clear h ba
  go_enter Try.func18, Try.ntmps18
  go_wp2_with fail
  refine (pick_any 4 g An nn cn bs k _ S0.out (by omega) (by omega) (by omega)).mono ?_
  rintro e w1 ⟨r, k1, rfl, hr, k10, k11, hs1, hg1⟩
  obtain ⟨r0, r1⟩ := hr.lt (by omega)
  have V1 := Lib.hid (V0.out.src hg1 gl)
  have S1 := Lib.hid hs1
  have G1 := Lib.hid (grown_trans G0.out hg1)
  have ewr : IntKind.i64.wrap (2 + r) = 2 + r := IntWalk.i64_in _ (by omega)
  obtain ⟨so, hso⟩ : ∃ x, 2 + r = x := ⟨_, rfl⟩
  rw [hso] at ewr
  have so0 : 2 ≤ so := by omega
  have so1 : so ≤ 10 := by omega
  clear hr hs1 hg1 V0 S0 G0
  go_wp2_with fail
  clear hso
  go_loopw [5, 7] (fun s t wr => ∃ (i : Nat) (V : List Vo) (A : Option Addr) (c k' : Nat), i ≤ n ∧ s = .slice A i c ∧ t = .int .i64 i ∧ VT n V ∧ VoW wr w.heap.size A i c V ∧ k' ≤ k + 2 + 12 * i ∧ Src wr g An nn cn bs k' ∧ w.grownBy wr (some g)) (fun _ t _ => n - (intOf t).toNat)
  case atStart => exact ⟨0, [], _, 0, k1, Nat.zero_le _, rfl, rfl, by intro j v hv; simp at hv, V1.out, by omega, S1.out, G1.out⟩
  case round =>
    obtain ⟨i, V, A, c, k', hi, rfl, rfl, hT, hV, hk', hS, hG⟩ := hrel
    have HT := Lib.hid hT
    have HV := Lib.hid hV
    have HS := Lib.hid hS
    have HG := Lib.hid hG
    have HK := Lib.hid hk'
    have hkb : k' ≤ 2000 := by omega
    have hvl := hV.len
    have sz := hG.size
    clear hT hV hS hG hk' V1 S1 G1
    by_cases hlt : i < n
    · have d0 := decide_eq_true (show (i : Int) < (n : Int) by omega)
      go_wp2_with fail
      refine (one_any so g An nn cn bs k' _ HS.out (by omega) (by omega) (by omega)).mono ?_
      rintro e w2 ⟨sp, k2, rfl, k20, k21, hs2, hg2⟩
      have sz2 := hg2.size
      have V2 := Lib.hid (HV.out.src hg2 gl)
      have G2 := Lib.hid (grown_trans HG.out hg2)
      have bA := bel_alloc w2 (.cells #[] 2)
      have bB := bel_alloc (w2.alloc (.cells #[] 2)) (.cells #[.bool sp, .slice (some ⟨w2.heap.size, 0, none⟩) 0 0] 29)
      have sA : (w2.alloc (.cells #[] 2)).heap.size = w2.heap.size + 1 := by simp
      have bO := BO.new 29 (w2.alloc (.cells #[] 2)) (.bool sp) (.slice (some ⟨w2.heap.size, 0, none⟩) 0 0)
      rw [sA] at bO
      have bAB := bel_trans bA bB
      have S3 := Lib.hid (hs2.kept bAB)
      have G3 := Lib.hid (only_new (grown_refl w2 (some g)) (show w2.grownBy _ none from ⟨bAB.os, bAB.tape, bAB.output, bAB.size, fun k hk _ => bAB.block k hk⟩) (fun r hr => by cases hr))
      have R3 := Lib.hid bO
      have I3 := Lib.hid ((ownI_lit w2).below bB)
      have sB : ((w2.alloc (.cells #[] 2)).alloc (.cells #[.bool sp, .slice (some ⟨w2.heap.size, 0, none⟩) 0 0] 29)).heap.size = w2.heap.size + 2 := by simp
      clear hs2 hg2 bA bB bO bAB
      go_wp2_with fail
      obtain ⟨w3, hw3⟩ : ∃ x, (w2.alloc (.cells #[] 2)).alloc (.cells #[.bool sp, .slice (some ⟨w2.heap.size, 0, none⟩) 0 0] 29) = x := ⟨_, rfl⟩
      rw [hw3] at S3 G3 R3 I3 sB
      obtain ⟨gv, hgv⟩ : ∃ x, w2.heap.size + 1 = x := ⟨_, rfl⟩
      rw [hgv] at R3
      try rw [hw3]
      try rw [hgv]
      obtain ⟨lo, hlo⟩ : ∃ x, w2.heap.size = x := ⟨_, rfl⟩
      rw [hlo] at I3 sB hgv sz2
      try rw [hlo]
      refine (pick_any 4 g An nn cn bs k2 _ S3.out (by omega) (by omega) (by omega)).mono ?_
      rintro e w4 ⟨q, k4, rfl, hq, k40, k41, hs4, hg4⟩
      obtain ⟨q0, q1⟩ := hq.lt (by omega)
      obtain ⟨q, rfl⟩ := Int.eq_ofNat_of_zero_le q0
      have glo : g < lo := by omega
      have sz4 := hg4.size
      have S4 := Lib.hid hs4
      have G4 := Lib.hid (grown_trans G3.out hg4)
      have R4 := Lib.hid (R3.out.far hg4 (by omega))
      have I4 := Lib.hid (I3.out.kept hg4 (ne_lt (fun x hx => (I3.out.block x hx).1) glo))
      have HLO := Lib.hid hlo
      have lw : w.heap.size ≤ lo := by omega
      clear hq hs4 hg4 S3 G3 R3 I3 hw3
      clear hlo
      go_wp2_with fail
      go_loopw [9] (fun t wr2 => ∃ (qq l : Nat) (T : Option Addr) (d : Nat) (tr : List Nat) (kk : Nat), t = .int .i64 qq ∧ l + qq ≤ 3 ∧ tr.length = l ∧ (∀ t ∈ tr, t < n ∧ t ≠ i) ∧ tr.Nodup ∧ BO 29 wr2 gv (.bool sp) (.slice T l d) ∧ OwnI wr2 lo T l d (zr tr) ∧ kk + 2 * qq ≤ k4 + 6 ∧ Src wr2 g An nn cn bs kk ∧ w2.grownBy wr2 (some g)) (fun t _ => (intOf t).toNat)
      case atStart => exact ⟨q, 0, _, 0, [], k4, rfl, by omega, rfl, by simp, List.nodup_nil, R4.out, by rw [HLO.out]; exact I4.out, by omega, S4.out, G4.out⟩
      case round =>
        obtain ⟨qq, l, T, d, tr, kk, rfl, hlq, htl, htr, hnd, hR, hI, hkk, hSr, hGr⟩ := hrel
        have HTR := Lib.hid htr
        have HND := Lib.hid hnd
        have HR := Lib.hid hR
        have HI := Lib.hid hI
        have HS5 := Lib.hid hSr
        have HG5 := Lib.hid hGr
        have HTL := Lib.hid htl
        have HLT := Lib.hid hlt
        have sz5 := hGr.size
        rw [HLO.out] at sz5
        have gvl := hR.lt
        clear htr hnd hR hI hSr hGr S4 G4 R4 I4 hlt htl d0
        by_cases hqq : 0 < qq
        · have d0 := decide_eq_true (show (0 : Int) < (qq : Int) by omega)
          go_wp2_with fail
          refine (pick_any n g An nn cn bs kk _ HS5.out (by omega) (by omega) (by omega)).mono ?_
          rintro e w6 ⟨t, k6, rfl, ht, k60, k61, hs6, hg6⟩
          obtain ⟨t0, t1⟩ := ht.lt (by omega)
          obtain ⟨t, rfl⟩ := Int.eq_ofNat_of_zero_le t0
          have sz6 := hg6.size
          have S6 := Lib.hid hs6
          have G6 := Lib.hid (grown_trans HG5.out hg6)
          have R6 := Lib.hid (HR.out.far hg6 (by omega))
          have I6 := Lib.hid (HI.out.kept hg6 (ne_lt (fun x hx => (HI.out.block x hx).1) glo))
          have c1 := R6.out.cells.2
          have f1 := R6.out.free 1
          clear ht hs6 hg6 HS5 HG5 HR HI
          by_cases hti : t = i
          · have e1 : ((t : Int) != (i : Int)) = false := by simp [hti]
            have e2 : decide ((t : Int) = (i : Int)) = true := by simp [hti]
            clear hti
            go_wp2_with fail
            go_roundw
            case rel => exact ⟨qq - 1, l, T, d, tr, k6, by go_num, by omega, HTL.out, HTR.out, HND.out, R6.out, I6.out, by omega, S6.out, G6.out⟩
            case measure => simp [intOf]; omega
          · have e1 : ((t : Int) != (i : Int)) = true := by simp; omega
            have e2 : decide ((t : Int) = (i : Int)) = false := decide_eq_false (by omega)
            have HTI := Lib.hid hti
            have HAS := Lib.hid (l00Has_any T l d (zr tr) t w6 I6.out.ints)
            rw [zr_any] at HAS
            clear hti
            by_cases hmem : t ∈ tr
            · rw [decide_eq_true hmem] at HAS
              clear hmem
              go_wp2_with fail
              refine HAS.out.mono ?_
              rintro e w7 ⟨rfl, rfl⟩
              go_wp2_with fail
              go_roundw
              case rel => exact ⟨qq - 1, l, T, d, tr, k6, by go_num, by omega, HTL.out, HTR.out, HND.out, R6.out, I6.out, by omega, S6.out, G6.out⟩
              case measure => simp [intOf]; omega
            · rw [decide_eq_false hmem] at HAS
              have HM := Lib.hid hmem
              have sz6b : lo ≤ w6.heap.size := by omega
              clear hmem
              go_wp2_with fail
              refine HAS.out.mono ?_
              rintro e w7 ⟨rfl, rfl⟩
              go_wp2_with (at_builtin; refine app_int_at _ rfl _ _ rfl lo T l d _ rfl I6.out (t : Int) (by omega) (by omega) rfl (by omega) sz6b ?_; intro A3 c3 w8 p1 p2 p3; have R8 := Lib.hid (R6.out.keep (n := 0) I6.out.1 p2 (by decide)); have c8 := R8.out.cells.2; have f8 := R8.out.free 1)
              go_roundw
              case rel =>
                obtain ⟨st1, st2⟩ := R8.out.set1 (.slice A3 (l + 1) c3)
                have nb : ∀ x, (Value.slice T l d).ownBlock = some x → lo ≤ x := fun x hx => (I6.out.block x hx).1
                refine ⟨qq - 1, l + 1, A3, c3, tr ++ [t], k6, by go_num, by omega, by simp [HTL.out], ?_, nodup_snoc HND.out HM.out, st1, ?_, by omega, ?_, ?_⟩
                · intro x hx
                  rcases List.mem_append.1 hx with hx | hx
                  · exact HTR.out x hx
                  · rw [List.mem_singleton] at hx
                    subst hx
                    exact ⟨by omega, HTI.out⟩
                · rw [zr_app]
                  exact p1.kept st2 (own_ne p1.1 R8.out (by decide))
                · exact (S6.out.grown p2 (fun x hx => by have := nb x hx; omega)).grown st2 (fun x hx => by injection hx with hx; omega)
                · exact only_new (only_new G6.out p2 (fun x hx => by rw [HLO.out]; exact nb x hx)) st2 (fun x hx => by injection hx with hx; rw [HLO.out]; omega)
              case measure => simp [intOf]; omega
        · obtain rfl : qq = 0 := by omega
          have d0 : decide ((0 : Int) < ((0 : Nat) : Int)) = false := by decide
          have c0 := HR.out.cells.1
          have c1 := HR.out.cells.2
          have VV := Lib.hid (V2.out.src HG5.out gl)
          have VB := Lib.hid (V2.out.block)
          have szl : w.heap.size ≤ wr.heap.size := by omega
          have lt' := HLT.out
          go_wp2_with (at_builtin; refine app_voice _ rfl _ _ rfl w.heap.size A i c V rfl VV.out ⟨sp, tr⟩ T l d HTL.out (HI.out.mono lw) rfl (by omega) szl ?_; intro A3 c3 w8 p1 p2 p3)
          have lt'' := HLT.out
          go_roundw
          case rel =>
            refine ⟨i + 1, V ++ [⟨sp, tr⟩], A3, c3, kk, by omega, rfl, by go_num, HT.out.snoc (fun t ht => by rw [hvl]; exact HTR.out t ht) HND.out (by have := HTL.out; show tr.length ≤ 4; omega), p1, by have := HK.out; omega, HS5.out.grown p2 (fun x hx => by have := (VB.out x hx).1; omega), ?_⟩
            exact only_new (grown_trans G2.out HG5.out) p2 (fun x hx => (VB.out x hx).1)
          case measure => simp [intOf]; omega
    · obtain rfl : n = i := by omega
      have d0 := decide_eq_false (show ¬ (n : Int) < (n : Int) by omega)
      go_wp2_with fail
      go_ret
      exact ⟨V, A, c, rfl, HT.out, HV.out, HG.out⟩
end Go.Proofs.Ytefddohjnemdiaa
