/- Articles and edits by number; the edit that leads from a text to another. -/
import Derived.Test.YtcoladhppbknnaaStM
import Derived.Test.YtcoladhppbknnaaDel
import Derived.Test.YtcoladhppbknnaaPat3
namespace Go.Proofs.Ytcoladhppbknnaa
set_option linter.unusedVariables false
set_option linter.unusedSimpArgs false
set_option maxRecDepth 100000
open Go.RowKit Go.Deep
theorem findIdx_at {α : Type} {p : α → Bool} : ∀ {l : List α} {k : Nat} {x : α}, l[k]? = some x → p x = true → (l.take k).any p = false → l.findIdx p = k
  | [], k, x, h, _, _ => by simp at h
  | a :: l, 0, x, h, hp, _ => by
    simp at h
    subst h
    rw [List.findIdx_cons, hp]
    rfl
  | a :: l, k + 1, x, h, hp, ht => by
    rw [List.take_succ_cons, List.any_cons, Bool.or_eq_false_iff] at ht
    rw [List.findIdx_cons, ht.1, findIdx_at (by simpa using h) hp ht.2]
    rfl
/-- The index of the first that fulfils p; -1 if there is none. -/
def idxI {α : Type} (l : List α) (p : α → Bool) : Int := if l.any p = true then (l.findIdx p : Int) else -1
theorem idxI_at {α : Type} {p : α → Bool} {l : List α} {k : Nat} {x : α} (h : l[k]? = some x) (hp : p x = true) (ht : (l.take k).any p = false) : idxI l p = (k : Int) := by
  unfold idxI
  rw [if_pos (List.any_eq_true.2 ⟨x, List.mem_of_getElem? h, hp⟩), findIdx_at h hp ht]
theorem idxI_no {α : Type} {p : α → Bool} {l : List α} (h : l.any p = false) : idxI l p = -1 := by
  unfold idxI
  rw [if_neg (by rw [h]; simp)]
theorem any_nextG {α : Type} {p : α → Bool} {l : List α} {k : Nat} {x : α} (h : l[k]? = some x) (ht : (l.take k).any p = false) (hp : p x = false) : (l.take (k + 1)).any p = false := by
  rw [take_snoc' h, List.any_append, ht]
  simp [hp]
/-- slices.IndexFunc on articles, with a closure over one variable. -/
theorem idx_eq (A : Option Addr) (n c : Nat) (rs : List Ar) (gp : Nat) (id : Int) (w : World) (h : Ars w A n c rs) (hg : gp < w.heap.size) (hid : w.cell? ⟨gp, 0, none⟩ = some (.int .i64 id)) :
    Calls Try.prog 111 #[.slice A n c, .func (.func 119) #[] #[.pointer (some ⟨gp, 0, none⟩)]] w fun e w' => e = .returned (.int .i64 (idxI rs (fun a => a.id == id))) ∧ Below w.heap.size w w' := by
  have hm := h.short
  obtain rfl : rs.length = n := h.len
  have HA := Lib.hid h
  have HID := Lib.hid hid
  clear h hid
  go_enter Try.func111, Try.ntmps111
  go_wp2_with fail
  go_loopw [8] (fun i wr => ∃ k : Nat, k ≤ rs.length ∧ i = .int .i64 k ∧ (rs.take k).any (fun a => a.id == id) = false ∧ Below w.heap.size w wr) (fun i _ => rs.length - (intOf i).toNat)
  case atStart => exact ⟨0, Nat.zero_le _, rfl, rfl, Below.refl _ _⟩
  case round =>
    obtain ⟨k, hk, rfl, hany, hb⟩ := hrel
    have HY := Lib.hid hany
    have HB := Lib.hid hb
    clear hany hb
    by_cases hlt : k < rs.length
    · have d0 := decide_eq_true (show (k : Int) < (rs.length : Int) by omega)
      obtain ⟨b, off, a, rfl, hbw, ha, hok, c0, c1⟩ := (HA.out.below HB.out).at hlt
      have hid := (HB.out.cell (p := ⟨gp, 0, none⟩) hg).trans HID.out
      have k0 : (0 : Int) ≤ (k : Int) := by omega
      have k1 : (k : Int) < (rs.length : Int) := by omega
      have bx := bel_alloc wr (.cells #[.int .i64 a.id, .string a.text] 70)
      have C := Cs.new wr [.int .i64 a.id, .string a.text] 70
      have y0 := C.cell 0 rfl
      have hid2 := (bx.cell (p := ⟨gp, 0, none⟩) (Nat.lt_of_lt_of_le hg HB.out.size)).trans hid
      have B2 := Lib.hid (bel_trans HB.out bx)
      have hcall : Calls Try.prog 119 #[.agg #[.int .i64 a.id, .string a.text], .pointer (some ⟨gp, 0, none⟩)] wr fun e w' => e = .returned (.bool ((fun a => a.id == id) a)) ∧ w' = wr.alloc (.cells #[.int .i64 a.id, .string a.text] 70) := by
        clear d0 hlt
        go_enter Try.func119, Try.ntmps119
        go_wp2_with fail
        go_ret
        exact ⟨by first | rfl | simp, rfl⟩
      have HC := Lib.hid hcall
      clear C y0 hid2 hcall bx
      cases hp : (fun a => a.id == id) a
      · have NX := Lib.hid (any_nextG ha.out HY.out hp)
        rw [hp] at HC
        clear hp
        go_wp2_with fail
        refine HC.out.mono ?_
        rintro e w' ⟨rfl, rfl⟩
        go_wp2_with fail
        go_roundw
        case rel => exact ⟨k + 1, by omega, by go_num, NX.out, B2.out⟩
        case measure => simp [intOf]; omega
      · have EQ := Lib.hid (idxI_at ha.out hp HY.out)
        rw [hp] at HC
        clear hp
        go_wp2_with fail
        refine HC.out.mono ?_
        rintro e w' ⟨rfl, rfl⟩
        go_wp2_with fail
        go_ret
        exact ⟨by rw [EQ.out]; rfl, B2.out⟩
    · obtain rfl : rs.length = k := by omega
      have d0 := decide_eq_false (show ¬ (rs.length : Int) < (rs.length : Int) by omega)
      have EQ := Lib.hid (idxI_no (by rw [← HY.out, List.take_of_length_le (Nat.le_refl _)]))
      go_wp2_with fail
      go_ret
      exact ⟨by rw [EQ.out]; rfl, HB.out⟩
theorem idx_gt (A : Option Addr) (n c : Nat) (rs : List Ar) (gp : Nat) (id : Int) (w : World) (h : Ars w A n c rs) (hg : gp < w.heap.size) (hid : w.cell? ⟨gp, 1, none⟩ = some (.int .i64 id)) :
    Calls Try.prog 111 #[.slice A n c, .func (.func 112) #[] #[.pointer (some ⟨gp, 0, none⟩)]] w fun e w' => e = .returned (.int .i64 (idxI rs (fun a => decide (id < a.id)))) ∧ Below w.heap.size w w' := by
  have hm := h.short
  obtain rfl : rs.length = n := h.len
  have HA := Lib.hid h
  have HID := Lib.hid hid
  clear h hid
  go_enter Try.func111, Try.ntmps111
  go_wp2_with fail
  go_loopw [8] (fun i wr => ∃ k : Nat, k ≤ rs.length ∧ i = .int .i64 k ∧ (rs.take k).any (fun a => decide (id < a.id)) = false ∧ Below w.heap.size w wr) (fun i _ => rs.length - (intOf i).toNat)
  case atStart => exact ⟨0, Nat.zero_le _, rfl, rfl, Below.refl _ _⟩
  case round =>
    obtain ⟨k, hk, rfl, hany, hb⟩ := hrel
    have HY := Lib.hid hany
    have HB := Lib.hid hb
    clear hany hb
    by_cases hlt : k < rs.length
    · have d0 := decide_eq_true (show (k : Int) < (rs.length : Int) by omega)
      obtain ⟨b, off, a, rfl, hbw, ha, hok, c0, c1⟩ := (HA.out.below HB.out).at hlt
      have hid := (HB.out.cell (p := ⟨gp, 1, none⟩) hg).trans HID.out
      have k0 : (0 : Int) ≤ (k : Int) := by omega
      have k1 : (k : Int) < (rs.length : Int) := by omega
      have bx := bel_alloc wr (.cells #[.int .i64 a.id, .string a.text] 70)
      have C := Cs.new wr [.int .i64 a.id, .string a.text] 70
      have y0 := C.cell 0 rfl
      have hid2 := (bx.cell (p := ⟨gp, 1, none⟩) (Nat.lt_of_lt_of_le hg HB.out.size)).trans hid
      have B2 := Lib.hid (bel_trans HB.out bx)
      have hcall : Calls Try.prog 112 #[.agg #[.int .i64 a.id, .string a.text], .pointer (some ⟨gp, 0, none⟩)] wr fun e w' => e = .returned (.bool ((fun a => decide (id < a.id)) a)) ∧ w' = wr.alloc (.cells #[.int .i64 a.id, .string a.text] 70) := by
        clear d0 hlt
        go_enter Try.func112, Try.ntmps112
        go_wp2_with fail
        go_ret
        exact ⟨by first | rfl | simp, rfl⟩
      have HC := Lib.hid hcall
      clear C y0 hid2 hcall bx
      cases hp : (fun a => decide (id < a.id)) a
      · have NX := Lib.hid (any_nextG ha.out HY.out hp)
        rw [hp] at HC
        clear hp
        go_wp2_with fail
        refine HC.out.mono ?_
        rintro e w' ⟨rfl, rfl⟩
        go_wp2_with fail
        go_roundw
        case rel => exact ⟨k + 1, by omega, by go_num, NX.out, B2.out⟩
        case measure => simp [intOf]; omega
      · have EQ := Lib.hid (idxI_at ha.out hp HY.out)
        rw [hp] at HC
        clear hp
        go_wp2_with fail
        refine HC.out.mono ?_
        rintro e w' ⟨rfl, rfl⟩
        go_wp2_with fail
        go_ret
        exact ⟨by rw [EQ.out]; rfl, B2.out⟩
    · obtain rfl : rs.length = k := by omega
      have d0 := decide_eq_false (show ¬ (rs.length : Int) < (rs.length : Int) by omega)
      have EQ := Lib.hid (idxI_no (by rw [← HY.out, List.take_of_length_le (Nat.le_refl _)]))
      go_wp2_with fail
      go_ret
      exact ⟨by rw [EQ.out]; rfl, HB.out⟩
theorem idx_ed (A : Option Addr) (n c : Nat) (rs : List Ed) (gp : Nat) (id : Int) (w : World) (h : Eds w A n c rs) (hg : gp < w.heap.size) (hid : w.cell? ⟨gp, 0, none⟩ = some (.int .i64 id)) :
    Calls Try.prog 114 #[.slice A n c, .func (.func 115) #[] #[.pointer (some ⟨gp, 0, none⟩)]] w fun e w' => e = .returned (.int .i64 (idxI rs (fun e => e.id == id))) ∧ Below w.heap.size w w' := by
  have hm := h.short
  obtain rfl : rs.length = n := h.len
  have HA := Lib.hid h
  have HID := Lib.hid hid
  clear h hid
  go_enter Try.func114, Try.ntmps114
  go_wp2_with fail
  go_loopw [8] (fun i wr => ∃ k : Nat, k ≤ rs.length ∧ i = .int .i64 k ∧ (rs.take k).any (fun e => e.id == id) = false ∧ Below w.heap.size w wr) (fun i _ => rs.length - (intOf i).toNat)
  case atStart => exact ⟨0, Nat.zero_le _, rfl, rfl, Below.refl _ _⟩
  case round =>
    obtain ⟨k, hk, rfl, hany, hb⟩ := hrel
    have HY := Lib.hid hany
    have HB := Lib.hid hb
    clear hany hb
    by_cases hlt : k < rs.length
    · have d0 := decide_eq_true (show (k : Int) < (rs.length : Int) by omega)
      obtain ⟨b, off, a, rfl, hbw, ha, hok, c0, c1, c2, c3⟩ := (HA.out.below HB.out).at hlt
      have hid := (HB.out.cell (p := ⟨gp, 0, none⟩) hg).trans HID.out
      have k0 : (0 : Int) ≤ (k : Int) := by omega
      have k1 : (k : Int) < (rs.length : Int) := by omega
      have bx := bel_alloc wr (.cells #[.int .i64 a.kind, .int .i64 a.id, .string a.old, .string a.new] 74)
      have C := Cs.new wr [.int .i64 a.kind, .int .i64 a.id, .string a.old, .string a.new] 74
      have y0 := C.cell 1 rfl
      have hid2 := (bx.cell (p := ⟨gp, 0, none⟩) (Nat.lt_of_lt_of_le hg HB.out.size)).trans hid
      have B2 := Lib.hid (bel_trans HB.out bx)
      have hcall : Calls Try.prog 115 #[.agg #[.int .i64 a.kind, .int .i64 a.id, .string a.old, .string a.new], .pointer (some ⟨gp, 0, none⟩)] wr fun e w' => e = .returned (.bool ((fun e => e.id == id) a)) ∧ w' = wr.alloc (.cells #[.int .i64 a.kind, .int .i64 a.id, .string a.old, .string a.new] 74) := by
        clear d0 hlt
        go_enter Try.func115, Try.ntmps115
        go_wp2_with fail
        go_ret
        exact ⟨by first | rfl | simp, rfl⟩
      have HC := Lib.hid hcall
      clear C y0 hid2 hcall bx
      cases hp : (fun e => e.id == id) a
      · have NX := Lib.hid (any_nextG ha.out HY.out hp)
        rw [hp] at HC
        clear hp
        go_wp2_with fail
        refine HC.out.mono ?_
        rintro e w' ⟨rfl, rfl⟩
        go_wp2_with fail
        go_roundw
        case rel => exact ⟨k + 1, by omega, by go_num, NX.out, B2.out⟩
        case measure => simp [intOf]; omega
      · have EQ := Lib.hid (idxI_at ha.out hp HY.out)
        rw [hp] at HC
        clear hp
        go_wp2_with fail
        refine HC.out.mono ?_
        rintro e w' ⟨rfl, rfl⟩
        go_wp2_with fail
        go_ret
        exact ⟨by rw [EQ.out]; rfl, B2.out⟩
    · obtain rfl : rs.length = k := by omega
      have d0 := decide_eq_false (show ¬ (rs.length : Int) < (rs.length : Int) by omega)
      have EQ := Lib.hid (idxI_no (by rw [← HY.out, List.take_of_length_le (Nat.le_refl _)]))
      go_wp2_with fail
      go_ret
      exact ⟨by rw [EQ.out]; rfl, HB.out⟩
theorem fnd_at {rs : List Ar} {k : Nat} {a : Ar} {id : Int} (h : rs[k]? = some a) (hp : (a.id == id) = true) (ht : (rs.take k).any (fun a => a.id == id) = false) : fnd rs id = a.text := by
  induction rs generalizing k with
  | nil => simp at h
  | cons b rs ih =>
    cases k with
    | zero =>
      simp at h
      subst h
      unfold fnd
      rw [if_pos (by simpa using hp)]
    | succ k =>
      rw [List.take_succ_cons, List.any_cons, Bool.or_eq_false_iff] at ht
      unfold fnd
      rw [if_neg (by have := ht.1; simpa using this), ih (by simpa using h) ht.2]
theorem fnd_any {rs : List Ar} {id : Int} (h : rs.any (fun a => a.id == id) = false) : fnd rs id = ByteArray.empty :=
  fnd_none fun a ha e => by
    rw [List.any_eq_false] at h
    exact h a ha (by simpa using e)
theorem edo_at {rs : List Ed} {k : Nat} {a : Ed} {id : Int} (h : rs[k]? = some a) (hp : (a.id == id) = true) (ht : (rs.take k).any (fun a => a.id == id) = false) : edo rs id = some a := by
  induction rs generalizing k with
  | nil => simp at h
  | cons b rs ih =>
    cases k with
    | zero =>
      simp at h
      subst h
      unfold edo
      rw [if_pos (by simpa using hp)]
    | succ k =>
      rw [List.take_succ_cons, List.any_cons, Bool.or_eq_false_iff] at ht
      unfold edo
      rw [if_neg (by have := ht.1; simpa using this), ih (by simpa using h) ht.2]
theorem edo_any {rs : List Ed} {id : Int} (h : rs.any (fun a => a.id == id) = false) : edo rs id = none :=
  edo_none fun a ha e => by
    rw [List.any_eq_false] at h
    exact h a ha (by simpa using e)
theorem idxI_cases {α : Type} (l : List α) (p : α → Bool) : (∃ (k : Nat) (x : α), l[k]? = some x ∧ p x = true ∧ (l.take k).any p = false ∧ idxI l p = (k : Int)) ∨ (l.any p = false ∧ idxI l p = -1) := by
  by_cases h : l.any p = true
  · have hk : l.findIdx p < l.length := by
      obtain ⟨x, hx, hp⟩ := List.any_eq_true.1 h
      exact List.findIdx_lt_length_of_exists ⟨x, hx, hp⟩
    have hp : p (l[l.findIdx p]) = true := List.findIdx_getElem (w := hk)
    have ht : (l.take (l.findIdx p)).any p = false := by
      rw [List.any_eq_false]
      intro x hx
      obtain ⟨i, hi, rfl⟩ := List.mem_take_iff_getElem.1 hx
      have := List.not_of_lt_findIdx (p := p) (xs := l) (i := i) (by omega)
      simpa using this
    exact .inl ⟨_, _, List.getElem?_eq_getElem hk, hp, ht, idxI_at (List.getElem?_eq_getElem hk) hp ht⟩
  · have h : l.any p = false := by simpa using h
    exact .inr ⟨h, idxI_no h⟩
theorem article_ok (A : Option Addr) (n c : Nat) (rs : List Ar) (id : Int) (w : World) (h : Ars w A n c rs) :
    Calls Try.prog 87 #[.slice A n c, .int .i64 id] w fun e w' => e = .returned (.int .i64 (idxI rs (fun a => a.id == id))) ∧ Below w.heap.size w w' := by
  have bx := bel_alloc w (.cells #[.int .i64 id] 2)
  have y0 := (Cs.new w [.int .i64 id] 2).cell 0 rfl
  have IX := Lib.hid (idx_eq A n c rs w.heap.size id _ (h.below bx) (by simp) y0)
  have BX := Lib.hid bx
  clear bx y0 h
  go_enter Try.func87, Try.ntmps87
  go_wp2_with fail
  refine IX.out.mono ?_
  rintro e w1 ⟨rfl, b1⟩
  have B1 := Lib.hid (bel_trans BX.out b1)
  clear b1 IX
  go_wp2_with fail
  go_ret
  exact ⟨rfl, B1.out⟩
theorem textOf_ok (A : Option Addr) (n c : Nat) (rs : List Ar) (id : Int) (w : World) (h : Ars w A n c rs) :
    Calls Try.prog 78 #[.slice A n c, .int .i64 id] w fun e w' => e = .returned (.string (fnd rs id)) ∧ Below w.heap.size w w' := by
  have hm := h.short
  obtain rfl : rs.length = n := h.len
  have HA := Lib.hid h
  have AR := Lib.hid (article_ok A rs.length c rs id w h)
  clear h
  rcases idxI_cases rs (fun a => a.id == id) with ⟨k, a, ha, hp, ht, hi⟩ | ⟨ht, hi⟩
  · have FN := Lib.hid (fnd_at ha hp ht)
    have hk := (List.getElem?_eq_some_iff.1 ha).1
    rw [hi] at AR
    have HX := Lib.hid ha
    clear ht hi hp ha
    go_enter Try.func78, Try.ntmps78
    go_wp2_with fail
    refine AR.out.mono ?_
    rintro e w1 ⟨rfl, b1⟩
    obtain ⟨b, off, a', rfl, hbw, ha', _, c0, c1⟩ := (HA.out.below b1).at hk
    obtain rfl : a = a' := by have := HX.out.symm.trans ha'.out; injection this
    have B1 := Lib.hid b1
    have k0 : (0 : Int) ≤ (k : Int) := by omega
    have k1 : (k : Int) < (rs.length : Int) := by omega
    have d0 := decide_eq_true k0
    clear b1 AR
    go_wp2_with fail
    go_ret
    exact ⟨by rw [FN.out]; rfl, B1.out⟩
  · have FN := Lib.hid (fnd_any ht)
    rw [hi] at AR
    clear ht hi
    go_enter Try.func78, Try.ntmps78
    go_wp2_with fail
    refine AR.out.mono ?_
    rintro e w1 ⟨rfl, b1⟩
    have B1 := Lib.hid b1
    clear b1 AR
    go_wp2_with fail
    go_ret
    exact ⟨by rw [FN.out]; rfl, B1.out⟩
theorem l07Find_ok (A : Option Addr) (n c : Nat) (rs : List Ar) (id : Int) (w : World) (h : Ars w A n c rs) :
    Calls Try.prog 107 #[.slice A n c, .int .i64 id] w fun e w' => e = .returned (.string (fnd rs id)) ∧ w = w' := by
  have hm := h.short
  obtain rfl : rs.length = n := h.len
  have HA := Lib.hid h
  clear h
  go_enter Try.func107, Try.ntmps107
  go_wp2_with fail
  go_loop [5] (fun i => ∃ k : Nat, k ≤ rs.length ∧ i = .int .i64 k ∧ (rs.take k).any (fun a => a.id == id) = false) (fun i => rs.length - (intOf i).toNat)
  case atStart => exact ⟨0, Nat.zero_le _, rfl, rfl⟩
  case round =>
    obtain ⟨k, hk, rfl, hany⟩ := hrel
    have HY := Lib.hid hany
    clear hany
    by_cases hlt : k < rs.length
    · have d0 := decide_eq_true (show (k : Int) < (rs.length : Int) by omega)
      obtain ⟨b, off, a, rfl, hbw, ha, hok, c0, c1⟩ := HA.out.at hlt
      have k0 : (0 : Int) ≤ (k : Int) := by omega
      have k1 : (k : Int) < (rs.length : Int) := by omega
      cases hp : (a.id == id)
      · have NX := Lib.hid (any_nextG (p := fun a => a.id == id) ha.out HY.out hp)
        have e1 : decide (a.id = id) = false := decide_eq_false (by simpa using hp)
        go_wp2_with fail
        go_round
        case rel => exact ⟨k + 1, by omega, by go_num, NX.out⟩
        case measure => simp [intOf]; omega
      · have EQ := Lib.hid (fnd_at ha.out hp HY.out)
        have e1 : decide (a.id = id) = true := decide_eq_true (by simpa using hp)
        go_wp2_with fail
        go_ret
        exact ⟨by rw [EQ.out]; rfl, rfl⟩
    · obtain rfl : rs.length = k := by omega
      have d0 := decide_eq_false (show ¬ (rs.length : Int) < (rs.length : Int) by omega)
      have EQ := Lib.hid (fnd_any (rs := rs) (id := id) (by rw [← HY.out, List.take_of_length_le (Nat.le_refl _)]))
      go_wp2_with fail
      go_ret
      exact ⟨by rw [EQ.out]; rfl, rfl⟩
def edV (e : Ed) : Value := .agg #[.int .i64 e.kind, .int .i64 e.id, .string e.old, .string e.new]
theorem editOf_ok (A : Option Addr) (n c : Nat) (rs : List Ed) (id : Int) (w : World) (h : Eds w A n c rs) :
    Calls Try.prog 76 #[.slice A n c, .int .i64 id] w fun e w' => e = .returned (.tuple #[edV ((edo rs id).getD dEd), .bool (edo rs id).isSome]) ∧ Below w.heap.size w w' := by
  have hm := h.short
  obtain rfl : rs.length = n := h.len
  have HA := Lib.hid h
  have bx := bel_alloc w (.cells #[.int .i64 id] 2)
  have by' := bel_alloc (w.alloc (.cells #[.int .i64 id] 2)) (.cells #[.int .i64 0, .int .i64 0, .string ⟨#[]⟩, .string ⟨#[]⟩] 74)
  have y0 := ((Cs.new w [.int .i64 id] 2).below by').cell 0 rfl
  have C := Cs.new (w.alloc (.cells #[.int .i64 id] 2)) [.int .i64 0, .int .i64 0, .string ⟨#[]⟩, .string ⟨#[]⟩] 74
  have bb := bel_trans bx by'
  have sz : (w.alloc (.cells #[.int .i64 id] 2)).heap.size = w.heap.size + 1 := by simp
  rw [sz] at C
  have IX := Lib.hid (idx_ed A rs.length c rs w.heap.size id _ (h.below bb) (by simp; omega) y0)
  have BX := Lib.hid bb
  have CC := Lib.hid C
  have sz2 : ((w.alloc (.cells #[.int .i64 id] 2)).alloc (.cells #[.int .i64 0, .int .i64 0, .string ⟨#[]⟩, .string ⟨#[]⟩] 74)).heap.size = w.heap.size + 2 := by simp
  clear bx by' y0 h bb C
  go_enter Try.func76, Try.ntmps76
  go_wp2_with fail
  refine IX.out.mono ?_
  rintro e w1 ⟨rfl, b1⟩
  have B1 := Lib.hid (bel_trans BX.out b1)
  have C1 := Lib.hid (CC.out.below b1)
  have sz3 := b1.size
  have f0 := C1.out.free 0 rfl
  have f1 := C1.out.free 1 rfl
  have f2 := C1.out.free 2 rfl
  have f3 := C1.out.free 3 rfl
  have x0 := C1.out.cell 0 rfl
  have x1 := C1.out.cell 1 rfl
  have x2 := C1.out.cell 2 rfl
  have x3 := C1.out.cell 3 rfl
  clear b1 IX
  rcases idxI_cases rs (fun a => a.id == id) with ⟨k, a, ha, hp, ht, hi⟩ | ⟨ht, hi⟩
  · have FN := Lib.hid (edo_at ha hp ht)
    have hk := (List.getElem?_eq_some_iff.1 ha).1
    rw [hi]
    have HX := Lib.hid ha
    clear ht hi hp ha
    obtain ⟨b, off, a', rfl, hbw, ha', _, c0, c1, c2, c3⟩ := (HA.out.below B1.out).at hk
    obtain rfl : a = a' := by have := HX.out.symm.trans ha'.out; injection this
    have k0 : (0 : Int) ≤ (k : Int) := by omega
    have k1 : (k : Int) < (rs.length : Int) := by omega
    have d0 : decide ((k : Int) < 0) = false := decide_eq_false (by omega)
    go_wp2_with fail
    have B9 := Lib.hid ((((B1.out.setCell (p := ⟨w.heap.size + 1, 0, none⟩) (Nat.le_succ _) (.int .i64 a.kind)).setCell (p := ⟨w.heap.size + 1, 1, none⟩) (Nat.le_succ _) (.int .i64 a.id)).setCell (p := ⟨w.heap.size + 1, 2, none⟩) (Nat.le_succ _) (.string a.old)).setCell (p := ⟨w.heap.size + 1, 3, none⟩) (Nat.le_succ _) (.string a.new))
    have C9 := Lib.hid ((((C1.out.set 0 (.int .i64 a.kind) (by simp)).set 1 (.int .i64 a.id) (by simp)).set 2 (.string a.old) (by simp)).set 3 (.string a.new) (by simp))
    obtain ⟨w9, hw9⟩ : ∃ z, (((w1.setCell ⟨w.heap.size + 1, 0, none⟩ (.int .i64 a.kind)).setCell ⟨w.heap.size + 1, 1, none⟩ (.int .i64 a.id)).setCell ⟨w.heap.size + 1, 2, none⟩ (.string a.old)).setCell ⟨w.heap.size + 1, 3, none⟩ (.string a.new) = z := ⟨_, rfl⟩
    rw [hw9] at B9 C9 ⊢
    have re0 := C9.out.cell 0 rfl
    have re1 := C9.out.cell 1 rfl
    have re2 := C9.out.cell 2 rfl
    have re3 := C9.out.cell 3 rfl
    exact bodyPost_ret (v := .tuple #[edV a, .bool true]) (by simp [results, Try.results76, go_sem, re0, re1, re2, re3, edV]) rfl ⟨by rw [FN.out]; rfl, B9.out⟩
  · have FN := Lib.hid (edo_any ht)
    rw [hi]
    clear ht hi
    go_wp2_with fail
    have B9 := Lib.hid ((((B1.out.setCell (p := ⟨w.heap.size + 1, 0, none⟩) (Nat.le_succ _) (.int .i64 0)).setCell (p := ⟨w.heap.size + 1, 1, none⟩) (Nat.le_succ _) (.int .i64 0)).setCell (p := ⟨w.heap.size + 1, 2, none⟩) (Nat.le_succ _) (.string ⟨#[]⟩)).setCell (p := ⟨w.heap.size + 1, 3, none⟩) (Nat.le_succ _) (.string ⟨#[]⟩))
    have C9 := Lib.hid ((((C1.out.set 0 (.int .i64 0) (by simp)).set 1 (.int .i64 0) (by simp)).set 2 (.string ⟨#[]⟩) (by simp)).set 3 (.string ⟨#[]⟩) (by simp))
    obtain ⟨w9, hw9⟩ : ∃ z, (((w1.setCell ⟨w.heap.size + 1, 0, none⟩ (.int .i64 0)).setCell ⟨w.heap.size + 1, 1, none⟩ (.int .i64 0)).setCell ⟨w.heap.size + 1, 2, none⟩ (.string ⟨#[]⟩)).setCell ⟨w.heap.size + 1, 3, none⟩ (.string ⟨#[]⟩) = z := ⟨_, rfl⟩
    rw [hw9] at B9 C9 ⊢
    have re0 := C9.out.cell 0 rfl
    have re1 := C9.out.cell 1 rfl
    have re2 := C9.out.cell 2 rfl
    have re3 := C9.out.cell 3 rfl
    exact bodyPost_ret (v := .tuple #[.agg #[.int .i64 0, .int .i64 0, .string ⟨#[]⟩, .string ⟨#[]⟩], .bool false]) (by simp [results, Try.results76, go_sem, re0, re1, re2, re3]) rfl ⟨by rw [FN.out]; rfl, B9.out⟩
end Go.Proofs.Ytcoladhppbknnaa
