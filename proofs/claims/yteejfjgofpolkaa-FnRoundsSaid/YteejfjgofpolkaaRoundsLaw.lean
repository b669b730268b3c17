/- The law FnRounds, walked. -/
import Derived.Test.YteejfjgofpolkaaDrawF
namespace Go.Proofs.Yteejfjgofpolkaa
set_option linter.unusedVariables false
set_option linter.unusedSimpArgs false
set_option maxRecDepth 100000
open Go.RowKit
/-- What the law has looked up of some attackers. -/
structure LP (F : Nat → Int) (bs : List Int) (last : Int) (gone : Bool) (first : Int) : Prop where
  lb : 0 ≤ last ∧ last ≤ 1024
  fb : 0 ≤ first ∧ first ≤ 1024
  gn : gone = true ↔ ∀ b ∈ bs, F b.toNat < 0
  le : ∀ b ∈ bs, F b.toNat < 0 → -F b.toNat ≤ last
  is_ : last = 0 ∨ ∃ b ∈ bs, F b.toNat < 0 ∧ -F b.toNat = last
  fz : first = 0 → ∀ b ∈ bs, ¬ 0 < F b.toNat
  fp : first ≠ 0 → (∃ b ∈ bs, F b.toNat = first) ∧ ∀ b ∈ bs, 0 < F b.toNat → first ≤ F b.toNat
theorem LP.start (F : Nat → Int) : LP F [] 0 true 0 := ⟨by omega, by omega, by simp, by simp, .inl rfl, by simp, by simp⟩
section
variable {F : Nat → Int} {bs : List Int} {last first : Int} {gone : Bool}
theorem LP.next (h : LP F bs last gone first) (b : Int) (r : Int) (hr : F b.toNat = r) (hb : -1024 ≤ r ∧ r ≤ 1024) : LP F (bs ++ [b]) (if r < 0 ∧ last < -r then -r else last) (gone && decide (r < 0)) (if 0 < r ∧ (first = 0 ∨ r < first) then r else first) := by
  have lb := h.lb
  have fb := h.fb
  have mem : ∀ {p : Int → Prop}, (∀ x ∈ bs ++ [b], p x) ↔ (∀ x ∈ bs, p x) ∧ p b := by intro p; simp [or_imp, forall_and]
  refine ⟨by split <;> omega, by split <;> omega, ?_, ?_, ?_, ?_, ?_⟩
  · rw [Bool.and_eq_true, h.gn, mem, hr]; simp
  · rw [mem]
    refine ⟨fun x hx h0 => ?_, fun h0 => ?_⟩
    · have := h.le x hx h0; split <;> omega
    · rw [hr] at h0 ⊢; split <;> omega
  · split
    · rename_i hh; exact .inr ⟨b, by simp, by rw [hr]; exact hh.1, by rw [hr]⟩
    · rcases h.is_ with q | ⟨x, hx, q⟩
      · exact .inl q
      · exact .inr ⟨x, by simp [hx], q⟩
  · intro h0
    rw [mem]
    split at h0
    · omega
    · rename_i hh
      exact ⟨h.fz h0, by rw [hr]; intro h1; exact hh ⟨h1, .inl h0⟩⟩
  · intro h0
    split
    · rename_i hh
      refine ⟨⟨b, by simp, hr⟩, mem.2 ⟨fun x hx h1 => ?_, by rw [hr]; omega⟩⟩
      by_cases hf : first = 0
      · exact absurd h1 (h.fz hf x hx)
      · have := (h.fp hf).2 x hx h1
        rcases hh.2 with q | q
        · exact absurd q hf
        · omega
    · rename_i hh
      rw [if_neg hh] at h0
      obtain ⟨⟨x, hx, q⟩, q2⟩ := h.fp h0
      refine ⟨⟨x, by simp [hx], q⟩, mem.2 ⟨q2, fun h1 => ?_⟩⟩
      rw [hr] at h1 ⊢
      by_cases h2 : r < first
      · exact absurd ⟨h1, .inr h2⟩ hh
      · omega
theorem LP.want {N x : Nat} {es : List (Nat × Nat)} (h : LP F (bitsTo (attM es x) 10) last gone first) (hR : RFin N (attM es) F) (hx : x < N) (hes : ∀ p ∈ es, p.1 < 10) : (gone = true → F x = last + 1) ∧ (gone = false → F x = -first) := by
  have mem : ∀ {b : Nat}, (attM es x).testBit b = true ↔ ((b : Nat) : Int) ∈ bitsTo (attM es x) 10 := by
    intro b
    rw [bitsTo_mem]
    constructor
    · intro h1
      have := hes _ ((attM_bit es x b).1 h1)
      exact ⟨b, rfl, this, h1⟩
    · rintro ⟨i, e, _, h1⟩
      have : b = i := by omega
      exact this ▸ h1
  have nat : ∀ {z : Int}, z ∈ bitsTo (attM es x) 10 → (attM es x).testBit z.toNat = true := by
    intro z hz
    obtain ⟨i, rfl, _, h1⟩ := bitsTo_mem.1 hz
    exact h1
  have lb := h.lb
  have fb := h.fb
  refine ⟨fun hg => ?_, fun hg => ?_⟩
  · have all := h.gn.1 hg
    rcases Int.lt_trichotomy (F x) 0 with h0 | h0 | h0
    · obtain ⟨⟨b, hb, e⟩, _⟩ := hR.neg x hx h0
      have := all _ (mem.1 hb)
      simp at this
      omega
    · obtain ⟨⟨b, hb, e⟩, _⟩ := hR.zer x hx h0
      have := all _ (mem.1 hb)
      simp at this
      omega
    · obtain ⟨p1, p2⟩ := hR.pos x hx h0
      have hle : last ≤ F x - 1 := by
        rcases h.is_ with q | ⟨z, hz, q1, q2⟩
        · omega
        · have := (p1 _ (nat hz)).2
          omega
      rcases p2 with p2 | ⟨b, hb, e⟩
      · omega
      · have := h.le _ (mem.1 hb) (by simpa using (p1 b hb).1)
        simp at this
        omega
  · have ex : ∃ z ∈ bitsTo (attM es x) 10, ¬ F z.toNat < 0 := by
      by_cases q : ∃ z ∈ bitsTo (attM es x) 10, ¬ F z.toNat < 0
      · exact q
      · have : gone = true := h.gn.2 fun z hz => by
          by_cases hf : F z.toNat < 0
          · exact hf
          · exact absurd ⟨z, hz, hf⟩ q
        rw [hg] at this
        simp at this
    obtain ⟨z, hz, hzn⟩ := ex
    rcases Int.lt_trichotomy (F x) 0 with h0 | h0 | h0
    · obtain ⟨⟨b, hb, e⟩, q⟩ := hR.neg x hx h0
      by_cases hf : first = 0
      · have := h.fz hf _ (mem.1 hb)
        simp at this
        omega
      · obtain ⟨⟨y, hy, q1⟩, q2⟩ := h.fp hf
        have a1 := q2 _ (mem.1 hb) (by simp; omega)
        simp at a1
        have a2 := q _ (nat hy) (by omega)
        omega
    · obtain ⟨_, q⟩ := hR.zer x hx h0
      by_cases hf : first = 0
      · omega
      · obtain ⟨⟨y, hy, q1⟩, _⟩ := h.fp hf
        have := q _ (nat hy)
        omega
    · obtain ⟨p1, _⟩ := hR.pos x hx h0
      exact absurd (p1 _ (nat hz)).1 hzn
end
set_option maxHeartbeats 4000000 in
theorem fnRounds_walk (w : World) (A : Option Addr) (n c : Nat) (zs : List Int) (h : Ints .u8 w A n c zs) (B : Option Addr) (m d : Nat) (ys : List Int) (k : Ints .u8 w B m d ys) :
    Calls Try.prog 3 #[.slice A n c, .slice B m d] w fun e w' => e = .returned (.bool true) ∧ Below w.heap.size w w' := by
  have hn := h.short
  have hm := k.short
  by_cases h1 : (decide ((48 : Int) < n) || decide ((48 : Int) < m)) = true
  · have H1 := Lib.hid h1
    clear h1
    go_enter Try.func3, Try.ntmps3
    go_wp2_with fail
    refine (r8Long_any A n c B m d _ hn hm).mono ?_
    rintro e w1 ⟨rfl, rfl⟩
    rw [H1.out]
    go_wp2_with fail
    go_ret
    exact ⟨rfl, Below.refl _ _⟩
  · have H1 : Hid ((decide ((48 : Int) < n) || decide ((48 : Int) < m)) = false) := by show _ = _; simpa using h1
    clear h1
    go_enter Try.func3, Try.ntmps3
    go_wp2_with fail
    refine (r8Long_any A n c B m d _ hn hm).mono ?_
    rintro e w1 ⟨rfl, rfl⟩
    rw [H1.out]
    go_wp2_with fail
    refine (R8Frame_any A n c zs _ h).mono ?_
    rintro e w1 ⟨N, es, Q, dq, rfl, ok, hR, b1⟩
    have n10 := ok.n10
    have OK := Lib.hid ok
    have ba := bel_alloc w1 (.cells #[.int .i64 N, .slice Q es.length dq] 26)
    have C1 := Lib.hid (Cs.new w1 [.int .i64 N, .slice Q es.length dq] 26)
    have y0 := C1.out.cell 0 rfl
    have y1 := C1.out.cell 1 rfl
    have RR := Lib.hid (hR.below ba)
    have B1 := Lib.hid (bel_trans b1 ba)
    have RC := Lib.hid (roundsOf_ok N es OK.out Q es.length dq _ RR.out)
    obtain ⟨gF, hgF⟩ : ∃ r, w1.heap.size = r := ⟨_, rfl⟩
    rw [hgF] at C1 y0 y1
    clear ok hR b1 ba
    go_wp2_with fail
    refine RC.out.mono ?_
    rintro e w2 ⟨AR, cR, F, rfl, oR, fR, b2⟩
    have C2 := Lib.hid (C1.out.below b2)
    have z0 := C2.out.cell 0 rfl
    have z1 := C2.out.cell 1 rfl
    have R2 := Lib.hid (RR.out.below b2)
    have B2 := Lib.hid (bel_trans B1.out b2)
    have OR := Lib.hid oR
    have FR := Lib.hid fR
    have qn : ((N : Int) != (N : Int)) = false := by simp
    clear oR fR b2 y0 y1 RC
    go_wp2_with fail
    clear z0 z1 qn
    go_loopw [8] (fun t wr => ∃ x : Nat, x ≤ N ∧ t = .int .i64 x ∧ Below w2.heap.size w2 wr) (fun t _ => N - (intOf t).toNat)
    case atStart => exact ⟨0, by omega, rfl, Below.refl _ _⟩
    case round =>
      obtain ⟨x, hx, rfl, hb⟩ := hrel
      have HB := Lib.hid hb
      have C3 := Lib.hid (C2.out.below hb)
      have R3 := Lib.hid (R2.out.below hb)
      have z0 := C3.out.cell 0 rfl
      have z1 := C3.out.cell 1 rfl
      clear hb
      by_cases hlt : x < N
      · have hdx := decide_eq_true (show (x : Int) < (N : Int) by omega)
        have AC := Lib.hid (attackersOf_ok N es OK.out x hlt Q es.length dq wr R3.out)
        go_wp2_with fail
        refine AC.out.mono ?_
        rintro e w4 ⟨AL, cL, rfl, oL, b4⟩
        have hL := bitsTo_len (attM es x) 10
        have C4 := Lib.hid (C3.out.below b4)
        have B4 := Lib.hid (bel_trans HB.out b4)
        have OL := Lib.hid oL
        have WANT := Lib.hid (fun last gone first (hp : LP F (bitsTo (attM es x) 10) last gone first) => hp.want FR.out hlt (fun q hq => by have := (OK.out.inn q hq).1; omega))
        have LMEM := Lib.hid (fun z (hz : z ∈ bitsTo (attM es x) 10) => (show ∃ b : Nat, z = b ∧ b < N from by
          obtain ⟨b, rfl, _, hb⟩ := bitsTo_mem.1 hz
          exact ⟨b, rfl, (OK.out.inn _ ((attM_bit es x b).1 hb)).1⟩))
        obtain ⟨L, hLL⟩ : ∃ r, bitsTo (attM es x) 10 = r := ⟨_, rfl⟩
        rw [hLL] at hL OL WANT LMEM ⊢
        clear oL b4 hLL z0 z1 AC C3 R3
        go_wp2_with fail
        go_loopw [11, 12, 13, 14] (fun tl tg tf ti wr => ∃ (i : Nat) (last first : Int) (gone : Bool), i ≤ L.length ∧ ti = .int .i64 i ∧ tl = .int .i64 last ∧ tg = .bool gone ∧ tf = .int .i64 first ∧ LP F (L.take i) last gone first ∧ Below w4.heap.size w4 wr) (fun _ _ _ t _ => L.length - (intOf t).toNat)
        case atStart => exact ⟨0, 0, 0, true, by omega, rfl, rfl, rfl, rfl, LP.start F, Below.refl _ _⟩
        case round =>
          obtain ⟨i, last, first, gone, hi, rfl, rfl, rfl, rfl, hp, hb⟩ := hrel
          have LPH := Lib.hid hp
          have lb := hp.lb
          have fb := hp.fb
          have H5 := Lib.hid hb
          have C5 := Lib.hid (C4.out.below hb)
          have z0 := C5.out.cell 0 rfl
          have OL5 := Lib.hid (OL.out.below hb)
          have OR5 := Lib.hid ((OR.out.below B4.out).below hb)
          clear hp hb
          obtain ⟨gR, rfl, _, _⟩ := OR5.out.form (by omega)
          by_cases hil : i < L.length
          · have hdi := decide_eq_true (show (i : Int) < (L.length : Int) by omega)
            obtain ⟨gL, rfl, _, _⟩ := OL5.out.form (by omega)
            obtain ⟨z, hz⟩ : ∃ z, L[i]? = some z := ⟨_, List.getElem?_eq_getElem hil⟩
            obtain ⟨b, rfl, hbN⟩ := LMEM.out z (mem_of_at hz)
            have cb := OL5.out.cell hz
            have cr := OR5.out.cell (lst_at F hbN)
            have rb := FR.out.bd b hbN
            obtain ⟨r, hr⟩ : ∃ r, F b = r := ⟨_, rfl⟩
            rw [hr] at cr rb
            have ewn : IntKind.i64.wrap (-r) = -r := IntWalk.i64_in _ (by omega)
            have hg1 : decide ((b : Int) < 0) = false := decide_eq_false (by omega)
            have hg2 : decide ((N : Int) ≤ (b : Int)) = false := decide_eq_false (by omega)
            have i0 : (0 : Int) ≤ (i : Int) := by omega
            have i1 : (i : Int) < (L.length : Int) := by omega
            have bi0 : (0 : Int) ≤ (b : Int) := by omega
            have bi1 : (b : Int) < (N : Int) := by omega
            have NX := Lib.hid (LPH.out.next (b : Int) r (by simpa using hr) rb)
            have TK := Lib.hid (take_snoc' hz)
            clear hz hr
            cases gone
            · skip
              by_cases hn1 : r < 0
              · have hr1 := decide_eq_true hn1
                have hp1 := decide_eq_false (show ¬ 0 < r by omega)
                by_cases hn2 : last < -r
                · have hl := decide_eq_true hn2
                  have NQ : Hid (LP F (L.take (i + 1)) (-r) (false && true) first) := by
                    show LP _ _ _ _ _
                    rw [TK.out]
                    have q := NX.out
                    rw [if_pos (by omega), if_neg (by omega), hr1] at q
                    exact q
                  try clear hn3
                  try clear hn4
                  clear hn1 hn2
                  go_wp2_with fail
                  go_quiet (fail)
                  go_wp2_with fail
                  go_roundw
                  case rel => exact ⟨i + 1, (-r), first, (false && true), by omega, by go_num, rfl, rfl, rfl, NQ.out, below_drewN H5.out _⟩
                  case measure => simp [intOf]; omega
                · have hl := decide_eq_false hn2
                  have NQ : Hid (LP F (L.take (i + 1)) last (false && true) first) := by
                    show LP _ _ _ _ _
                    rw [TK.out]
                    have q := NX.out
                    rw [if_neg (by omega), if_neg (by omega), hr1] at q
                    exact q
                  try clear hn3
                  try clear hn4
                  clear hn1 hn2
                  go_wp2_with fail
                  go_quiet (fail)
                  go_wp2_with fail
                  go_roundw
                  case rel => exact ⟨i + 1, last, first, (false && true), by omega, by go_num, rfl, rfl, rfl, NQ.out, below_drewN H5.out _⟩
                  case measure => simp [intOf]; omega
              · have hr1 := decide_eq_false hn1
                by_cases hn2 : 0 < r
                · have hp1 := decide_eq_true hn2
                  by_cases hn3 : first = 0
                  · have hf0 : (first == 0) = true := by simp [hn3]
                    have NQ : Hid (LP F (L.take (i + 1)) last (false && false) r) := by
                      show LP _ _ _ _ _
                      rw [TK.out]
                      have q := NX.out
                      rw [if_neg (by omega), if_pos (by omega), hr1] at q
                      exact q
                    try clear hn3
                    try clear hn4
                    clear hn1 hn2
                    go_wp2_with fail
                    go_quiet (fail)
                    go_wp2_with fail
                    go_roundw
                    case rel => exact ⟨i + 1, last, r, (false && false), by omega, by go_num, rfl, rfl, rfl, NQ.out, below_drewN H5.out _⟩
                    case measure => simp [intOf]; omega
                  · have hf0 : (first == 0) = false := by simpa using hn3
                    by_cases hn4 : r < first
                    · have hf1 := decide_eq_true hn4
                      have NQ : Hid (LP F (L.take (i + 1)) last (false && false) r) := by
                        show LP _ _ _ _ _
                        rw [TK.out]
                        have q := NX.out
                        rw [if_neg (by omega), if_pos (by omega), hr1] at q
                        exact q
                      try clear hn3
                      try clear hn4
                      clear hn1 hn2
                      go_wp2_with fail
                      go_quiet (fail)
                      go_wp2_with fail
                      go_roundw
                      case rel => exact ⟨i + 1, last, r, (false && false), by omega, by go_num, rfl, rfl, rfl, NQ.out, below_drewN H5.out _⟩
                      case measure => simp [intOf]; omega
                    · have hf1 := decide_eq_false hn4
                      have NQ : Hid (LP F (L.take (i + 1)) last (false && false) first) := by
                        show LP _ _ _ _ _
                        rw [TK.out]
                        have q := NX.out
                        rw [if_neg (by omega), if_neg (by omega), hr1] at q
                        exact q
                      try clear hn3
                      try clear hn4
                      clear hn1 hn2
                      go_wp2_with fail
                      go_quiet (fail)
                      go_wp2_with fail
                      go_roundw
                      case rel => exact ⟨i + 1, last, first, (false && false), by omega, by go_num, rfl, rfl, rfl, NQ.out, below_drewN H5.out _⟩
                      case measure => simp [intOf]; omega
                · have hp1 := decide_eq_false hn2
                  have NQ : Hid (LP F (L.take (i + 1)) last (false && false) first) := by
                    show LP _ _ _ _ _
                    rw [TK.out]
                    have q := NX.out
                    rw [if_neg (by omega), if_neg (by omega), hr1] at q
                    exact q
                  try clear hn3
                  try clear hn4
                  clear hn1 hn2
                  go_wp2_with fail
                  go_quiet (fail)
                  go_wp2_with fail
                  go_roundw
                  case rel => exact ⟨i + 1, last, first, (false && false), by omega, by go_num, rfl, rfl, rfl, NQ.out, below_drewN H5.out _⟩
                  case measure => simp [intOf]; omega
            · skip
              by_cases hn1 : r < 0
              · have hr1 := decide_eq_true hn1
                have hp1 := decide_eq_false (show ¬ 0 < r by omega)
                by_cases hn2 : last < -r
                · have hl := decide_eq_true hn2
                  have NQ : Hid (LP F (L.take (i + 1)) (-r) (true && true) first) := by
                    show LP _ _ _ _ _
                    rw [TK.out]
                    have q := NX.out
                    rw [if_pos (by omega), if_neg (by omega), hr1] at q
                    exact q
                  try clear hn3
                  try clear hn4
                  clear hn1 hn2
                  go_wp2_with fail
                  go_quiet (fail)
                  go_wp2_with fail
                  go_roundw
                  case rel => exact ⟨i + 1, (-r), first, (true && true), by omega, by go_num, rfl, rfl, rfl, NQ.out, below_drewN H5.out _⟩
                  case measure => simp [intOf]; omega
                · have hl := decide_eq_false hn2
                  have NQ : Hid (LP F (L.take (i + 1)) last (true && true) first) := by
                    show LP _ _ _ _ _
                    rw [TK.out]
                    have q := NX.out
                    rw [if_neg (by omega), if_neg (by omega), hr1] at q
                    exact q
                  try clear hn3
                  try clear hn4
                  clear hn1 hn2
                  go_wp2_with fail
                  go_quiet (fail)
                  go_wp2_with fail
                  go_roundw
                  case rel => exact ⟨i + 1, last, first, (true && true), by omega, by go_num, rfl, rfl, rfl, NQ.out, below_drewN H5.out _⟩
                  case measure => simp [intOf]; omega
              · have hr1 := decide_eq_false hn1
                by_cases hn2 : 0 < r
                · have hp1 := decide_eq_true hn2
                  by_cases hn3 : first = 0
                  · have hf0 : (first == 0) = true := by simp [hn3]
                    have NQ : Hid (LP F (L.take (i + 1)) last (true && false) r) := by
                      show LP _ _ _ _ _
                      rw [TK.out]
                      have q := NX.out
                      rw [if_neg (by omega), if_pos (by omega), hr1] at q
                      exact q
                    try clear hn3
                    try clear hn4
                    clear hn1 hn2
                    go_wp2_with fail
                    go_quiet (fail)
                    go_wp2_with fail
                    go_roundw
                    case rel => exact ⟨i + 1, last, r, (true && false), by omega, by go_num, rfl, rfl, rfl, NQ.out, below_drewN H5.out _⟩
                    case measure => simp [intOf]; omega
                  · have hf0 : (first == 0) = false := by simpa using hn3
                    by_cases hn4 : r < first
                    · have hf1 := decide_eq_true hn4
                      have NQ : Hid (LP F (L.take (i + 1)) last (true && false) r) := by
                        show LP _ _ _ _ _
                        rw [TK.out]
                        have q := NX.out
                        rw [if_neg (by omega), if_pos (by omega), hr1] at q
                        exact q
                      try clear hn3
                      try clear hn4
                      clear hn1 hn2
                      go_wp2_with fail
                      go_quiet (fail)
                      go_wp2_with fail
                      go_roundw
                      case rel => exact ⟨i + 1, last, r, (true && false), by omega, by go_num, rfl, rfl, rfl, NQ.out, below_drewN H5.out _⟩
                      case measure => simp [intOf]; omega
                    · have hf1 := decide_eq_false hn4
                      have NQ : Hid (LP F (L.take (i + 1)) last (true && false) first) := by
                        show LP _ _ _ _ _
                        rw [TK.out]
                        have q := NX.out
                        rw [if_neg (by omega), if_neg (by omega), hr1] at q
                        exact q
                      try clear hn3
                      try clear hn4
                      clear hn1 hn2
                      go_wp2_with fail
                      go_quiet (fail)
                      go_wp2_with fail
                      go_roundw
                      case rel => exact ⟨i + 1, last, first, (true && false), by omega, by go_num, rfl, rfl, rfl, NQ.out, below_drewN H5.out _⟩
                      case measure => simp [intOf]; omega
                · have hp1 := decide_eq_false hn2
                  have NQ : Hid (LP F (L.take (i + 1)) last (true && false) first) := by
                    show LP _ _ _ _ _
                    rw [TK.out]
                    have q := NX.out
                    rw [if_neg (by omega), if_neg (by omega), hr1] at q
                    exact q
                  try clear hn3
                  try clear hn4
                  clear hn1 hn2
                  go_wp2_with fail
                  go_quiet (fail)
                  go_wp2_with fail
                  go_roundw
                  case rel => exact ⟨i + 1, last, first, (true && false), by omega, by go_num, rfl, rfl, rfl, NQ.out, below_drewN H5.out _⟩
                  case measure => simp [intOf]; omega
          · have hdi := decide_eq_false (show ¬ (i : Int) < (L.length : Int) by omega)
            have LF : Hid (LP F L last gone first) := by
              have := LPH.out
              rwa [List.take_of_length_le (by omega)] at this
            obtain ⟨w1', w2'⟩ := WANT.out last gone first LF.out
            have cx := OR5.out.cell (lst_at F hlt)
            have fb' := FR.out.bd x hlt
            have x0 : (0 : Int) ≤ (x : Int) := by omega
            have x1 : (x : Int) < (N : Int) := by omega
            have ew1 : IntKind.i64.wrap (-first) = -first := IntWalk.i64_in _ (by omega)
            have ew2 : IntKind.i64.wrap (last + 1) = last + 1 := IntWalk.i64_in _ (by omega)
            have BE := Lib.hid (bel_trans B4.out H5.out)
            cases gone
            · rw [w2' rfl] at cx
              have qb : ((-first) != (-first)) = false := by simp
              clear w1' w2'
              go_wp2_with fail
              go_roundw
              case rel => exact ⟨x + 1, by omega, by go_num, BE.out⟩
              case measure => simp [intOf]; omega
            · rw [w1' rfl] at cx
              have qb : ((last + 1) != (last + 1)) = false := by simp
              clear w1' w2'
              go_wp2_with fail
              go_roundw
              case rel => exact ⟨x + 1, by omega, by go_num, BE.out⟩
              case measure => simp [intOf]; omega
      · have hdx := decide_eq_false (show ¬ (x : Int) < (N : Int) by omega)
        go_wp2_with fail
        go_ret
        exact ⟨rfl, bel_trans B2.out HB.out⟩
end Go.Proofs.Yteejfjgofpolkaa
