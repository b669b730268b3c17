/- A drawn strategy, walked. -/
import Derived.Test.YteejfjgofpolkaaDrawStr
import Derived.Test.YteejfjgofpolkaaSetB
namespace Go.Proofs.Yteejfjgofpolkaa
set_option linter.unusedVariables false
set_option linter.unusedSimpArgs false
set_option maxRecDepth 100000
open Go.RowKit Go.Deep
def mxF (F : Nat → Int) (b : Nat) : Int := if F b < 0 then 0 else F b
theorem mxF_nn (F : Nat → Int) (b : Nat) : 0 ≤ mxF F b := by unfold mxF; split <;> omega
def DrawnS (W0 : World) (e : Ending) (w' : World) : Prop := ∃ (x : Int) (RA : Option Addr) (nr rc : Nat) (R : List Int) (YA : Option Addr) (ny yc : Nat) (Y : List Int), I64 x ∧ e = .returned (.tuple #[.int .i64 x, .agg #[.slice RA nr rc, .slice YA ny yc]]) ∧ Ints .i64 w' RA nr rc R ∧ Ints .i64 w' YA ny yc Y ∧ Below W0.heap.size W0 w' ∧ (∀ a, RA = some a → W0.heap.size ≤ a.block) ∧ ∀ a, YA = some a → W0.heap.size ≤ a.block
theorem SI.mono {w : World} {lo lo' g : Nat} {A1 : Option Addr} {k1 c1 : Nat} {z1 : List Int} {A2 : Option Addr} {k2 c2 : Nat} {z2 : List Int} (h : SI w lo g A1 k1 c1 z1 A2 k2 c2 z2) (hl : lo' ≤ lo) : SI w lo' g A1 k1 c1 z1 A2 k2 c2 z2 :=
  ⟨h.cs, h.o1.mono hl, h.o2.mono hl, h.n1, h.n2, h.ap⟩
theorem offD_lit {g gR lo hi b : Nat} (h : g < b ∧ gR < b ∧ b < lo) : OffD g gR lo hi (.slice (some ⟨b, 0, none⟩) 0 0) := by
  intro r hr
  simp [Value.ownBlock] at hr
  omega
theorem DE.ended {W0 wr : World} {gR gT : Nat} {A1 : Option Addr} {k1 c1 : Nat} {z1 : List Int} {A2 : Option Addr} {k2 c2 : Nat} {z2 : List Int} (h : DE W0 wr gR gT A1 k1 c1 z1 A2 k2 c2 z2) :
    Ints .i64 ((wr.setCell ⟨gR, 0, none⟩ (.slice A1 k1 c1)).setCell ⟨gR, 1, none⟩ (.slice A2 k2 c2)) A1 k1 c1 z1 ∧ Ints .i64 ((wr.setCell ⟨gR, 0, none⟩ (.slice A1 k1 c1)).setCell ⟨gR, 1, none⟩ (.slice A2 k2 c2)) A2 k2 c2 z2 ∧ Below W0.heap.size W0 ((wr.setCell ⟨gR, 0, none⟩ (.slice A1 k1 c1)).setCell ⟨gR, 1, none⟩ (.slice A2 k2 c2)) := by
  have p := h.pos
  have g1 := grown_cell wr gR 0 (.slice A1 k1 c1)
  have g2 := grown_cell (wr.setCell ⟨gR, 0, none⟩ (.slice A1 k1 c1)) gR 1 (.slice A2 k2 c2)
  have ne : ∀ {A : Option Addr}, (∀ a, A = some a → a.block ≠ gR ∧ W0.heap.size ≤ a.block) → ∀ a, A = some a → some a.block ≠ some gR := fun h a ha e => (h a ha).1 (by injection e)
  exact ⟨(h.i1.kept g1 (ne h.a1)).kept g2 (ne h.a1), (h.i2.kept g1 (ne h.a2)).kept g2 (ne h.a2), (h.bl.setCell (p := ⟨gR, 0, none⟩) p.1 _).setCell (p := ⟨gR, 1, none⟩) p.1 _⟩
section
variable {W0 wr : World} {N : Nat} {es : List (Nat × Nat)} {g : Nat} {bA : Option Addr} {bn bc : Nat} {bs : List Int} {kS gR gT lo hi gG : Nat} {A3 : Option Addr} {c3 : Nat} {F : Nat → Int}
variable {g1 k1 c1 : Nat} {z1 : List Int} {g2 k2 c2 : Nat} {z2 : List Int} {B : Option Addr}
theorem dk_put0 (h : DK W0 wr N es g bA bn bc bs kS gR gT lo hi gG A3 c3 F) (s : SI wr W0.heap.size gT (some ⟨g1, 0, none⟩) k1 c1 z1 B k2 c2 z2) (h1 : OffD g gR lo hi (.slice (some ⟨g1, 0, none⟩) k1 c1)) (h2 : OffD g gR lo hi (.slice B k2 c2)) (q : Nat) (v : Int) (hv : I64 v) :
    DE W0 (wr.setCell ⟨g1, q, none⟩ (.int .i64 v)) gR gT (some ⟨g1, 0, none⟩) k1 c1 (z1.set q v) B k2 c2 z2 := by
  have st := s.o1.set q v hv.1 hv.2
  have k7 := h.grown st.2 (fun r e => by injection e with e; subst e; exact h1 _ rfl)
  have o2 := s.o2.kept_apart (v := .slice (some ⟨g1, 0, none⟩) k1 c1) s.ap.symm st.2
  exact ⟨k7.cr, s.cs.kept st.2 (fun e => s.n1 e.symm), st.1.ints, o2.ints, offD_at st.1 h1, offD_at o2 h2, k7.bl, by have := h.pos; omega, h.pos.2.2.1⟩
theorem dk_put1 (h : DK W0 wr N es g bA bn bc bs kS gR gT lo hi gG A3 c3 F) (s : SI wr W0.heap.size gT B k1 c1 z1 (some ⟨g2, 0, none⟩) k2 c2 z2) (h1 : OffD g gR lo hi (.slice B k1 c1)) (h2 : OffD g gR lo hi (.slice (some ⟨g2, 0, none⟩) k2 c2)) (q : Nat) (v : Int) (hv : I64 v) :
    DE W0 (wr.setCell ⟨g2, q, none⟩ (.int .i64 v)) gR gT B k1 c1 z1 (some ⟨g2, 0, none⟩) k2 c2 (z2.set q v) := by
  have st := s.o2.set q v hv.1 hv.2
  have k7 := h.grown st.2 (fun r e => by injection e with e; subst e; exact h2 _ rfl)
  have o1 := s.o1.kept_apart (v := .slice (some ⟨g2, 0, none⟩) k2 c2) s.ap st.2
  exact ⟨k7.cr, s.cs.kept st.2 (fun e => s.n2 e.symm), o1.ints, st.1.ints, offD_at o1 h1, offD_at st.1 h2, k7.bl, by have := h.pos; omega, h.pos.2.2.1⟩
theorem ints_tail {w : World} {A : Nat} {n c : Nat} {zs : List Int} (h : Ints .i64 w (some ⟨A, 0, none⟩) n c zs) (hn : 0 < n) : Ints .i64 w (some ⟨A, 1, none⟩) (n - 1) (c - 1) zs.tail := by
  obtain ⟨h1, h2, h3, h4, h5⟩ := h
  obtain ⟨b, off, e, hb, hc⟩ := h5 hn
  injection e with e
  injection e with e1 e2
  subst e1 e2
  refine ⟨by rw [List.length_tail, h1], by omega, by omega, fun z hz => h4 z (List.mem_of_mem_tail hz), fun _ => ⟨A, 1, rfl, hb, fun j z hz => ?_⟩⟩
  rw [List.getElem?_tail] at hz
  have := hc (j + 1) z hz
  rw [show 1 + j = 0 + (j + 1) by omega]
  exact this
theorem dk_tail (h : DK W0 wr N es g bA bn bc bs kS gR gT lo hi gG A3 c3 F) (s : SI wr W0.heap.size gT (some ⟨g1, 0, none⟩) k1 c1 z1 B k2 c2 z2) (h1 : OffD g gR lo hi (.slice (some ⟨g1, 0, none⟩) k1 c1)) (h2 : OffD g gR lo hi (.slice B k2 c2)) (hn : 0 < k1) :
    DE W0 (wr.setCell ⟨gT, 0, none⟩ (.slice (some ⟨g1, 1, none⟩) (k1 - 1) (c1 - 1))) gR gT (some ⟨g1, 1, none⟩) (k1 - 1) (c1 - 1) z1.tail B k2 c2 z2 := by
  have p := h.pos
  have gc := grown_cell wr gT 0 (.slice (some ⟨g1, 1, none⟩) (k1 - 1) (c1 - 1))
  have k7 := h.grown gc (fun r e => by injection e with e; omega)
  have o1 := s.o1.aside s.n1 0 (.slice (some ⟨g1, 1, none⟩) (k1 - 1) (c1 - 1))
  have o2 := s.o2.aside s.n2 0 (.slice (some ⟨g1, 1, none⟩) (k1 - 1) (c1 - 1))
  exact ⟨k7.cr, s.cs.set 0 _ (by simp), ints_tail o1.ints hn, o2.ints, by intro a ha; injection ha with ha; subst ha; exact ⟨(h1 _ rfl).2.1, (s.o1.block _ rfl).1⟩, offD_at o2 h2, k7.bl, by omega, p.2.2.1⟩
theorem dk_tail1 (h : DK W0 wr N es g bA bn bc bs kS gR gT lo hi gG A3 c3 F) (s : SI wr W0.heap.size gT (some ⟨g1, 0, none⟩) k1 1 z1 B k2 c2 z2) (h1 : OffD g gR lo hi (.slice (some ⟨g1, 0, none⟩) k1 1)) (h2 : OffD g gR lo hi (.slice B k2 c2)) (hn : 0 < k1) :
    DE W0 (wr.setCell ⟨gT, 0, none⟩ (.slice (some ⟨g1, 0, none⟩) 0 0)) gR gT (some ⟨g1, 0, none⟩) 0 0 [] B k2 c2 z2 := by
  have p := h.pos
  have gc := grown_cell wr gT 0 (.slice (some ⟨g1, 0, none⟩) 0 0)
  have k7 := h.grown gc (fun r e => by injection e with e; omega)
  have o2 := s.o2.aside s.n2 0 (.slice (some ⟨g1, 0, none⟩) 0 0)
  exact ⟨k7.cr, s.cs.set 0 _ (by simp), ⟨rfl, Nat.le_refl _, by unfold maxLen; omega, by simp, fun h => by omega⟩, o2.ints, by intro a ha; injection ha with ha; subst ha; exact ⟨(h1 _ rfl).2.1, (s.o1.block _ rfl).1⟩, offD_at o2 h2, k7.bl, by omega, p.2.2.1⟩
theorem dk_more {A7 : Option Addr} {n7 c7 : Nat} {z7 : List Int} {w7 : World} {A1 : Option Addr} (h : DK W0 wr N es g bA bn bc bs kS gR gT lo hi gG A3 c3 F) (s : SI wr W0.heap.size gT A1 k1 c1 z1 B k2 c2 z2) (h1 : OffD g gR lo hi (.slice A1 k1 c1)) (h2 : OffD g gR lo hi (.slice B k2 c2))
    (p1 : OwnI w7 W0.heap.size A7 n7 c7 z7) (p2 : wr.grownBy w7 (Value.slice B k2 c2).ownBlock) (p3 : NewBlk wr (.slice B k2 c2) (.slice A7 n7 c7)) :
    Cs w7 gT [.slice A1 k1 c1, .slice B k2 c2] ∧ DE W0 (w7.setCell ⟨gT, 1, none⟩ (.slice A7 n7 c7)) gR gT A1 k1 c1 z1 A7 n7 c7 z7 := by
  obtain ⟨a, b, c, d⟩ := dk_app1 h s h2 p1 p2 p3
  exact ⟨a, b.fin c h1 d⟩
end
set_option maxHeartbeats 8000000 in
theorem l08DrawStrategy_any (N : Nat) (es : List (Nat × Nat)) (ok : FrOk N es) (W0 : World) (gF : Nat) (Q : Option Addr) (m d : Nat) (C0 : Cs W0 gF [.int .i64 N, .slice Q m d]) (h0 : Rws W0 Q m d (es.map erow)) (g : Nat) (bA : Option Addr) (bn bc : Nat) (bs : List Int) (w : World) (b0 : Below W0.heap.size W0 w) (hg : W0.heap.size ≤ g) (hs : Src w g bA bn bc bs 0) :
    Calls Try.prog 87 #[.pointer (some ⟨g, 0, none⟩), .pointer (some ⟨gF, 0, none⟩)] w (DrawnS W0) := by
  have n10 := ok.n10
  have gFl := C0.1
  have gl := hs.lt
  have aR := bel_alloc w (.cells #[.slice none 0 0, .slice none 0 0] 39)
  have CR := Lib.hid (Cs.new w [.slice none 0 0, .slice none 0 0] 39)
  have B1 := Lib.hid (bel_trans b0 aR)
  have S1 := Lib.hid (hs.kept aR)
  have szR : (w.alloc (.cells #[.slice none 0 0, .slice none 0 0] 39)).heap.size = w.heap.size + 1 := by simp
  have sz0 := b0.size
  have OK := Lib.hid ok
  have FB := Lib.hid (frB_of ok)
  have HC := Lib.hid C0
  have HR := Lib.hid h0
  clear aR hs b0 ok C0 h0
  go_enter Try.func87, Try.ntmps87
  go_wp2_with fail
  refine (l08DrawArgument_any N n10 gF _ g bA bn bc bs 0 (by omega) _ (HC.out.below B1.out) (by omega) S1.out).mono ?_
  rintro e w1 ⟨x, k1, rfl, hx, k10, k11, hs1, hg1⟩
  have CR1 := Lib.hid (CR.out.kept hg1 (fun e => by injection e with e; omega))
  have B2 := Lib.hid (B1.out.grown hg1 B1.out.size (fun r hr => by injection hr with hr; omega))
  have sz1 := hg1.size
  have HX := Lib.hid hx
  have bx := bel_trans (bel_trans (bel_alloc w1 (.cells #[] 2)) (bel_alloc _ (.cells #[] 2))) (bel_alloc _ (.cells #[.slice (some ⟨w1.heap.size, 0, none⟩) 0 0, .slice (some ⟨w1.heap.size + 1, 0, none⟩) 0 0] 39))
  have SI0 := Lib.hid ((si_lits w1).mono (show W0.heap.size ≤ w1.heap.size by omega))
  have CR2 := Lib.hid (CR1.out.below bx)
  have S2 := Lib.hid (hs1.kept bx)
  have B3 := Lib.hid (bel_trans B2.out bx)
  have sz2 : (((w1.alloc (.cells #[] 2)).alloc (.cells #[] 2)).alloc (.cells #[.slice (some ⟨w1.heap.size, 0, none⟩) 0 0, .slice (some ⟨w1.heap.size + 1, 0, none⟩) 0 0] 39)).heap.size = w1.heap.size + 3 := by simp
  clear bx hx hs1 hg1 CR B1 S1 CR1 B2
  go_wp2_with fail
  refine (l08Is_any N (es.map erow) gF Q m d _ (HC.out.below B3.out) (HR.out.below B3.out)).mono ?_
  rintro e w2 ⟨rfl, b2⟩
  rw [FB.out]
  have SI2 := Lib.hid (SI0.out.below b2)
  have CR3 := Lib.hid (CR2.out.below b2)
  have S3 := Lib.hid (S2.out.kept b2)
  have B4 := Lib.hid (bel_trans B3.out b2)
  have sz3 := b2.size
  rw [sz2] at sz3
  clear b2 SI0 CR2 S2 B3 sz2
  go_wp2_with fail
  refine (l08Of_own N es OK.out gF Q m d _ (HC.out.below B4.out) (HR.out.below B4.out)).mono ?_
  rintro e w3 ⟨gG, rfl, hG, b3⟩
  have SI3 := Lib.hid (SI2.out.below b3)
  have CR4 := Lib.hid (CR3.out.below b3)
  have S4 := Lib.hid (S3.out.kept b3)
  have B5 := Lib.hid (bel_trans B4.out b3)
  have G3 := Lib.hid hG
  have sz4 := b3.size
  clear b3 hG SI2 CR3 S3 B4
  go_wp2_with fail
  refine (specGrounded_ok N es OK.out gG _ G3.out.gr).mono ?_
  rintro e w4 ⟨F0, hF0, rfl, b4⟩
  have gm : accM N F0 < 1024 := pow10 n10 (mk_lt _ _)
  have SI4 := Lib.hid (SI3.out.below b4)
  have CR5 := Lib.hid (CR4.out.below b4)
  have S5 := Lib.hid (S4.out.kept b4)
  have B6 := Lib.hid (bel_trans B5.out b4)
  have G4 := Lib.hid (G3.out.below b4)
  have sz5 := b4.size
  clear b4 hF0 SI3 CR4 S4 B5
  obtain ⟨gm0, hgm⟩ : ∃ z, accM N F0 = z := ⟨_, rfl⟩
  rw [hgm] at gm ⊢
  clear hgm
  go_wp2_with fail
  refine (l08List_ok gm0 gm _).mono ?_
  rintro e w5 ⟨AL, cL, rfl, oL, b5⟩
  have SI5 := Lib.hid (SI4.out.below b5)
  have CR6 := Lib.hid (CR5.out.below b5)
  have S6 := Lib.hid (S5.out.kept b5)
  have B7 := Lib.hid (bel_trans B6.out b5)
  have G5 := Lib.hid ((G4.out.below b5).wide (Nat.le_refl _) (Nat.le_trans sz5 b5.size))
  have sz6 := b5.size
  have OL := Lib.hid oL
  have LL := bitsTo_len gm0 10
  obtain ⟨L, hL⟩ : ∃ l, bitsTo gm0 10 = l := ⟨_, rfl⟩
  rw [hL] at OL LL ⊢
  clear b5 SI4 CR5 S5 B6 oL hL G3 G4 gm
  have SZ6 := Lib.hid (show w1.heap.size + 3 ≤ w2.heap.size ∧ w2.heap.size ≤ w5.heap.size ∧ w.heap.size + 1 ≤ w1.heap.size by omega)
  have oG : OffD g w.heap.size w2.heap.size w5.heap.size (.slice (some ⟨w1.heap.size, 0, none⟩) 0 0) := offD_lit (by omega)
  have oG2 : OffD g w.heap.size w2.heap.size w5.heap.size (.slice (some ⟨w1.heap.size + 1, 0, none⟩) 0 0) := offD_lit (by omega)
  have OG := Lib.hid oG
  have OG2 := Lib.hid oG2
  have glT : g < w1.heap.size + 2 := by omega
  have glo : g < w2.heap.size := by omega
  have glR : g ≠ w.heap.size := by omega
  clear oG oG2
  go_upto_region 7 with fail
  go_cut [37] from 14 (fun s wc => ∃ (b : Bool) (k : Nat), s = .bool b ∧ Hid (b = true → 0 < L.length) ∧ k ≤ 10 ∧ SI wc W0.heap.size (w1.heap.size + 2) (some ⟨w1.heap.size, 0, none⟩) 0 0 [] (some ⟨w1.heap.size + 1, 0, none⟩) 0 0 [] ∧ Cs wc w.heap.size [.slice none 0 0, .slice none 0 0] ∧ Src wc g bA bn bc bs k ∧ Below W0.heap.size W0 wc ∧ GrR w2.heap.size w5.heap.size wc gG N es ∧ OwnI wc w4.heap.size AL L.length cL L ∧ w5.heap.size ≤ wc.heap.size)
  case first =>
    by_cases hl : 0 < L.length
    · have d0 := decide_eq_true (show (0 : Int) < (L.length : Int) by omega)
      go_wp2_with fail
      refine (one_any 5 g bA bn bc bs k1 _ S6.out (by omega) (by omega) (by omega)).mono ?_
      rintro e w6 ⟨r, k6, rfl, k60, k61, hs6, hg6⟩
      have S7 := Lib.hid hs6
      have I7 := Lib.hid (SI5.out.src hg6 glT OG.out OG2.out)
      have C7 := Lib.hid (CR6.out.kept hg6 (fun e => by injection e with e; omega))
      have B8 := Lib.hid (B7.out.grown hg6 B7.out.size (fun r hr => by injection hr with hr; omega))
      have G7 := Lib.hid (G5.out.grown hg6 (fun r e => by injection e with e; omega))
      have O7 := Lib.hid (OL.out.kept hg6 (by
        cases hv : (Value.slice AL L.length cL).ownBlock with
        | none => exact .inl rfl
        | some x => exact .inr (fun e => by injection e with e; have := (OL.out.block x hv).1; omega)))
      have sz7 := hg6.size
      clear hs6 hg6 SI5 CR6 B7 G5 S6
      cases r
      · go_wp2_with fail
        go_meet
        case rel => exact ⟨true, k6, rfl, fun _ => hl, by omega, I7.out, C7.out, S7.out, B8.out, G7.out, O7.out, by omega⟩
      · go_wp2_with fail
        go_meet
        case rel => exact ⟨false, k6, rfl, fun h => absurd h (by simp), by omega, I7.out, C7.out, S7.out, B8.out, G7.out, O7.out, by omega⟩
    · have d0 := decide_eq_false (show ¬ (0 : Int) < (L.length : Int) by omega)
      go_wp2_with fail
      go_meet
      case rel => exact ⟨false, k1, rfl, fun h => absurd h (by simp), by omega, SI5.out, CR6.out, S6.out, B7.out, G5.out, OL.out, by omega⟩
  case rest =>
  obtain ⟨v, k6, rfl, HV, hk6, i7, c7, s7, b8, g7, o7, z7⟩ := hcut
  have I7 := Lib.hid i7
  have C7 := Lib.hid c7
  have S7 := Lib.hid s7
  have B8 := Lib.hid b8
  have G7 := Lib.hid g7
  have O7 := Lib.hid o7
  rename World => w7
  clear i7 c7 s7 b8 g7 o7 SI5 CR6 S6 B7 G5 OL
  go_upto_if 37 with fail
  go_cut [6] from 14 (fun s wc => ∃ (y : Int) (k : Nat), I64 y ∧ s = .int .i64 y ∧ k ≤ 20 ∧ SI wc W0.heap.size (w1.heap.size + 2) (some ⟨w1.heap.size, 0, none⟩) 0 0 [] (some ⟨w1.heap.size + 1, 0, none⟩) 0 0 [] ∧ Cs wc w.heap.size [.slice none 0 0, .slice none 0 0] ∧ Src wc g bA bn bc bs k ∧ Below W0.heap.size W0 wc ∧ GrR w2.heap.size w5.heap.size wc gG N es ∧ w5.heap.size ≤ wc.heap.size)
  case first =>
    cases v
    · go_wp2_with fail
      go_meet
      case rel => exact ⟨x, k6, HX.out, rfl, by omega, I7.out, C7.out, S7.out, B8.out, G7.out, by omega⟩
    · have hl := HV.out rfl
      go_wp2_with fail
      refine (pick_any L.length g bA bn bc bs k6 _ S7.out (by omega) (by omega) (by omega)).mono ?_
      rintro e w8 ⟨p, k8, rfl, hp, k80, k81, hs8, hg8⟩
      obtain ⟨p0, p1⟩ := hp.lt (by omega)
      obtain ⟨p, rfl⟩ := Int.eq_ofNat_of_zero_le p0
      have S8 := Lib.hid hs8
      have I8 := Lib.hid (I7.out.src hg8 glT OG.out OG2.out)
      have C8 := Lib.hid (C7.out.kept hg8 (fun e => by injection e with e; omega))
      have B9 := Lib.hid (B8.out.grown hg8 B8.out.size (fun r hr => by injection hr with hr; omega))
      have G8 := Lib.hid (G7.out.grown hg8 (fun r e => by injection e with e; omega))
      have O8 := O7.out.kept hg8 (by
        cases hv : (Value.slice AL L.length cL).ownBlock with
        | none => exact .inl rfl
        | some x => exact .inr (fun e => by injection e with e; have := (O7.out.block x hv).1; omega))
      obtain ⟨b, off, z, rfl, hb, hcell, hz1, hz2, hz⟩ := O8.ints.at (j := p) (by omega)
      have sz8 := hg8.size
      clear hs8 hg8 I7 C7 B8 G7 S7 O7 O8 hz hp
      go_wp2_with fail
      go_meet
      case rel => exact ⟨z, k8, ⟨hz1, hz2⟩, rfl, by omega, I8.out, C8.out, S8.out, B9.out, G8.out, by omega⟩
  case rest =>
    clear HX I7 C7 B8 G7 S7 O7 HV
    obtain ⟨y, k, hy, rfl, hk, i9, c9, s9, b9, g9, z9⟩ := hcut
    have HY := Lib.hid hy
    have I9 := Lib.hid i9
    have C9 := Lib.hid c9
    have S9 := Lib.hid s9
    have B9 := Lib.hid b9
    have G9 := Lib.hid g9
    clear hy i9 c9 s9 b9 g9 
    obtain ⟨gT, hgT⟩ : ∃ z, w1.heap.size + 2 = z := ⟨_, rfl⟩
    have gT1 : w1.heap.size + 1 < gT ∧ gT < w2.heap.size := by have := SZ6.out; omega
    have gR1 : g < w.heap.size ∧ w.heap.size < w1.heap.size := by have := SZ6.out; omega
    rw [hgT] at I9
    have et : w1.heap.size + 1 + 1 = gT := hgT
    rw [et]
    clear hgT et
    go_wp2_with fail
    refine (specRounds_ok N es OK.out gG _ G9.out.gr).mono ?_
    rintro e wL ⟨A3, c3, F, rfl, o3, hF, u3⟩
    have FB3 := Lib.hid hF.bd
    have D0 := Lib.hid (show DK W0 wL N es g bA bn bc bs k w.heap.size gT w2.heap.size wL.heap.size gG A3 c3 F from
      ⟨C9.out.below u3, (G9.out.below u3).wide (Nat.le_refl _) (Nat.le_trans z9 u3.size), (IR.mk' o3).wide (show w2.heap.size ≤ _ by have := SZ6.out; omega) (Nat.le_refl _), S9.out.kept u3, bel_trans B9.out u3, hg, by omega, by omega, by omega, Nat.le_refl _⟩)
    have I0 := Lib.hid (show SI wL W0.heap.size gT (some ⟨w1.heap.size, 0, none⟩) 0 0 (lst 0 (mxF F)) (some ⟨w1.heap.size + 1, 0, none⟩) 0 0 [] from I9.out.below u3)
    have P1 := Lib.hid (show OffD g w.heap.size w2.heap.size wL.heap.size (.slice (some ⟨w1.heap.size, 0, none⟩) 0 0) from offD_lit (by omega))
    have P2 := Lib.hid (show OffD g w.heap.size w2.heap.size wL.heap.size (.slice (some ⟨w1.heap.size + 1, 0, none⟩) 0 0) from offD_lit (by omega))
    clear o3 hF u3 I9 C9 S9 B9 G9 OG OG2 SZ6
    go_wp2_with fail
    go_loopw [11] (fun t wr => ∃ (b : Nat) (A1 : Option Addr) (c1 : Nat), b ≤ N ∧ t = .int .i64 b ∧ DK W0 wr N es g bA bn bc bs k w.heap.size gT w2.heap.size wL.heap.size gG A3 c3 F ∧ SI wr W0.heap.size gT A1 b c1 (lst b (mxF F)) (some ⟨w1.heap.size + 1, 0, none⟩) 0 0 [] ∧ OffD g w.heap.size w2.heap.size wL.heap.size (.slice A1 b c1)) (fun t _ => N - (intOf t).toNat)
    case atStart => exact ⟨0, _, 0, by omega, rfl, D0.out, I0.out, P1.out⟩
    case round =>
      obtain ⟨b, A1, c1, hb, rfl, d4, i4, p4⟩ := hrel
      have D4 := Lib.hid d4
      have I4 := Lib.hid i4
      have P4 := Lib.hid p4
      clear d4 i4 p4 D0 I0 P1
      have gy := (by obtain ⟨_, _, _, _, C, _, _⟩ := D4.out.gr.gr; exact C.cell 0 rfl : wr.cell? ⟨gG, 0, none⟩ = some (.int .i64 N))
      by_cases hlt : b < N
      · have hd := decide_eq_true (show (b : Int) < (N : Int) by omega)
        have k0 : (0 : Int) ≤ (b : Int) := by omega
        have k1 : (b : Int) < (N : Int) := by omega
        obtain ⟨g3, rfl, _, _⟩ := D4.out.ro.own.form (by omega)
        have bd := FB3.out b hlt
        have LS := Lib.hid (show lst (b + 1) (mxF F) = lst b (mxF F) ++ [mxF F b] from lst_succ b _)
        have RK : mxF F b = if F b < 0 then 0 else F b := rfl
        obtain ⟨r, hr⟩ : ∃ r, mxF F b = r := ⟨_, rfl⟩
        rw [hr] at LS RK
        obtain ⟨z, hz⟩ : ∃ z, F b = z := ⟨_, rfl⟩
        have HZ := Lib.hid hz
        rw [hz] at RK bd
        have rb1 : -9223372036854775808 ≤ r := by rw [RK]; split <;> omega
        have rb2 : r ≤ 9223372036854775807 := by rw [RK]; split <;> omega
        have HRK := Lib.hid RK
        have bl4 := D4.out.bl.size
        clear hr hz RK
        go_wp2_with fail
        clear gy
        refine wp_region_noPanic ?_
        refine wp_region_R (inFirst (fun W => W.cell? ⟨gT, 0, none⟩ = some (.slice A1 b c1) ∧ W.cell? ⟨g3, b, none⟩ = some (.int .i64 z)) 10) (by kernel_rfl) ?_
        have SS := Lib.hid (fun (W : World) (hW : Below wr.heap.size wr W) => (show W.cell? ⟨gT, 0, none⟩ = some (.slice A1 b c1) ∧ W.cell? ⟨g3, b, none⟩ = some (.int .i64 z) from ⟨(I4.out.cs.below hW).cell 0 rfl, by have := (D4.out.ro.below hW).own.cell (lst_at F hlt); rw [HZ.out] at this; exact this⟩))
        have hS0 := SS.out wr.drew ⟨rfl, rfl, rfl, Nat.le_refl _, fun _ _ => rfl⟩
        refine anyR_takeD (i := 0) [1, 8] (.pointer (some ⟨gT, 0, none⟩)) rfl (by kernel_rfl) (by kernel_rfl) (by kernel_rfl) (by kernel_rfl) (by kernel_rfl) (fun _ _ _ h => h) (by assumption) ⟨by rfl, ?_⟩ ?_
        · intro W hW
          go_simp
        try simp only [Act.put, List.setIfInBounds_toArray, List.set_cons_zero, List.set_cons_succ, List.getElem_toArray, List.getElem_cons_zero, List.getElem_cons_succ]
        refine anyR_takeD (i := 1) [8] (.slice A1 b c1) rfl (by kernel_rfl) (by kernel_rfl) (by kernel_rfl) (by kernel_rfl) (by kernel_rfl) (fun _ _ _ h => h) (by assumption) ⟨by rfl, ?_⟩ ?_
        · intro W hW
          go_simp
        try simp only [Act.put, List.setIfInBounds_toArray, List.set_cons_zero, List.set_cons_succ, List.getElem_toArray, List.getElem_cons_zero, List.getElem_cons_succ]
        refine anyR_takeD (i := 2) [4, 5, 6, 7, 8] (.slice (some ⟨g3, 0, none⟩) N c3) rfl (by kernel_rfl) (by kernel_rfl) (by kernel_rfl) (by kernel_rfl) (by kernel_rfl) (fun _ _ _ h => h) (by assumption) ⟨by rfl, ?_⟩ ?_
        · intro W hW
          go_simp
        try simp only [Act.put, List.setIfInBounds_toArray, List.set_cons_zero, List.set_cons_succ, List.getElem_toArray, List.getElem_cons_zero, List.getElem_cons_succ]
        refine anyR_takeD (i := 3) [4, 5, 6, 7, 8] (.int .i64 b) rfl (by kernel_rfl) (by kernel_rfl) (by kernel_rfl) (by kernel_rfl) (by kernel_rfl) (fun _ _ _ h => h) (by assumption) ⟨by rfl, ?_⟩ ?_
        · intro W hW
          go_simp
        try simp only [Act.put, List.setIfInBounds_toArray, List.set_cons_zero, List.set_cons_succ, List.getElem_toArray, List.getElem_cons_zero, List.getElem_cons_succ]
        refine anyR_takeD (i := 4) [5, 6, 7, 8] (.pointer (some ⟨g3, b, none⟩)) rfl (by kernel_rfl) (by kernel_rfl) (by kernel_rfl) (by kernel_rfl) (by kernel_rfl) (fun _ _ _ h => h) (by assumption) ⟨by rfl, ?_⟩ ?_
        · intro W hW
          go_simp
        try simp only [Act.put, List.setIfInBounds_toArray, List.set_cons_zero, List.set_cons_succ, List.getElem_toArray, List.getElem_cons_zero, List.getElem_cons_succ]
        refine anyR_takeD (i := 5) [6, 7, 8] (.int .i64 z) rfl (by kernel_rfl) (by kernel_rfl) (by kernel_rfl) (by kernel_rfl) (by kernel_rfl) (fun _ _ _ h => h) (by assumption) ⟨by rfl, ?_⟩ ?_
        · intro W hW
          go_simp
        try simp only [Act.put, List.setIfInBounds_toArray, List.set_cons_zero, List.set_cons_succ, List.getElem_toArray, List.getElem_cons_zero, List.getElem_cons_succ]
        refine anyR_one (i := 6) (by kernel_rfl) rfl ?_
        intro K hK
        go_simp
        go_at_call 74
        refine (l00Max0_any z _).mono ?_
        rintro e w5 ⟨rfl, rfl⟩
        rw [← HRK.out]
        refine hK.out _ _ (fun _ => hS0) ?_
        clear hK K
        try simp only [Act.put, List.setIfInBounds_toArray, List.set_cons_zero, List.set_cons_succ, List.getElem_toArray, List.getElem_cons_zero, List.getElem_cons_succ]
        refine anyR_one (i := 7) (by kernel_rfl) rfl ?_
        intro K hK
        go_simp
        have u6 := (show Below wr.heap.size wr (wr.drew.alloc (.cells #[.int .i64 r] 2)) from bel_trans (show Below wr.heap.size wr wr.drew from ⟨rfl, rfl, rfl, Nat.le_refl _, fun _ _ => rfl⟩) (bel_alloc wr.drew (.cells #[.int .i64 r] 2)))
        have t6 := SS.out _ u6
        refine hK.out _ _ (fun _ => t6) ?_
        clear hK K
        try simp only [Act.put, List.setIfInBounds_toArray, List.set_cons_zero, List.set_cons_succ, List.getElem_toArray, List.getElem_cons_zero, List.getElem_cons_succ]
        refine anyR_one (i := 8) (by kernel_rfl) rfl ?_
        intro K hK
        have S7 := Lib.hid (I4.out.below u6)
        have B7 := Lib.hid (D4.out.below u6)
        have HCN := Lib.hid (show (wr.drew.alloc (.cells #[.int .i64 r] 2)).cell? ⟨wr.drew.heap.size, 0, none⟩ = some (.int .i64 r) from (Cs.new wr.drew [.int .i64 r] 2).cell 0 rfl)
        refine step_app_int _ (by rfl) _ _ (by rfl) W0.heap.size A1 b c1 _ (by rfl) S7.out.o1 r rb1 rb2 wr.drew.heap.size (by rfl) HCN.out (by omega) B7.out.bl.size ?_
        intro A7 c7 w7' p1 p2 p3
        obtain ⟨⟨CQ, RQ⟩, SN⟩ := dk_app0 B7.out S7.out P4.out p1 p2 p3
        have SN' := Lib.hid SN
        have c70 := CQ.cell 0 rfl
        have f70 := CQ.free 0 rfl
        have r70 := RQ.own.cell (lst_at F hlt)
        rw [HZ.out] at r70
        clear p1 p2 p3 SN CQ RQ
        refine hK.out _ _ (fun _ => ⟨c70, r70⟩) ?_
        clear hK K
        try simp only [Act.put, List.setIfInBounds_toArray, List.set_cons_zero, List.set_cons_succ, List.getElem_toArray, List.getElem_cons_zero, List.getElem_cons_succ]
        refine anyR_one (i := 9) (by kernel_rfl) rfl ?_
        intro K hK
        go_simp
        refine hK.out _ _ (fun _ => ⟨c70, r70⟩) ?_
        clear hK K
        try simp only [Act.put, List.setIfInBounds_toArray, List.set_cons_zero, List.set_cons_succ, List.getElem_toArray, List.getElem_cons_zero, List.getElem_cons_succ]
        refine anyR_one (i := 10) (by kernel_rfl) rfl ?_
        intro K hK
        go_simp
        refine hK.out _ _ (fun h => absurd h (by decide)) ?_
        clear hK K
        try simp only [Act.put, List.setIfInBounds_toArray, List.set_cons_zero, List.set_cons_succ, List.getElem_toArray, List.getElem_cons_zero, List.getElem_cons_succ]
        refine anyR_done (by kernel_rfl) ?_ _
        refine NoPanic.normal ?_
        clear hS0 t6 c70 r70 f70
        go_wp2_with fail
        go_roundw
        case rel => exact ⟨b + 1, A7, c7, by omega, by go_num, SN'.out.1, by rw [LS.out]; exact SN'.out.2.1, SN'.out.2.2⟩
        case measure => simp [intOf]; omega
      · obtain rfl : b = N := by omega
        have hd := decide_eq_false (show ¬ (b : Int) < (b : Int) by omega)
        have gy' := gy
        have I5 := Lib.hid (show SI wr W0.heap.size gT A1 b c1 (lst b (mxF F)) (some ⟨w1.heap.size + 1, 0, none⟩) 0 0 (lst 0 (fun q => rp (attM es q) (mxF F) b)) from I4.out)
        have D5 := Lib.hid D4.out
        clear I4 D4 gy
        go_wp2_with fail
        clear gy'
        go_loopw [12] (fun t wr => ∃ (j : Nat) (A2 : Option Addr) (c2 : Nat), j ≤ b ∧ t = .int .i64 j ∧ DK W0 wr b es g bA bn bc bs k w.heap.size gT w2.heap.size wL.heap.size gG A3 c3 F ∧ SI wr W0.heap.size gT A1 b c1 (lst b (mxF F)) A2 j c2 (lst j (fun q => rp (attM es q) (mxF F) b)) ∧ OffD g w.heap.size w2.heap.size wL.heap.size (.slice A2 j c2)) (fun t _ => b - (intOf t).toNat)
        case atStart => exact ⟨0, _, 0, by omega, rfl, D5.out, I5.out, P2.out⟩
        case round =>
          obtain ⟨j, A2, c2, hj, rfl, d6, i6, p6⟩ := hrel
          have D6 := Lib.hid d6
          have I6 := Lib.hid i6
          have P6 := Lib.hid p6
          clear d6 i6 p6 D5 I5 P2
          have gy := (by obtain ⟨_, _, _, _, C, _, _⟩ := D6.out.gr.gr; exact C.cell 0 rfl : wr.cell? ⟨gG, 0, none⟩ = some (.int .i64 b))
          by_cases hlt : j < b
          · have hd := decide_eq_true (show (j : Int) < (b : Int) by omega)
            have RS := Lib.hid (show lst (j + 1) (fun q => rp (attM es q) (mxF F) b) = lst j (fun q => rp (attM es q) (mxF F) b) ++ [rp (attM es j) (mxF F) b] from lst_succ j _)
            have RG := rp_range (attM es j) (mxF F) b
            have RP := Lib.hid (fun W hG hI => l08Reply_ok b es OK.out (mxF F) (mxF_nn F) j hlt gG A1 c1 W hG hI)
            obtain ⟨o, ho⟩ : ∃ o, rp (attM es j) (mxF F) b = o := ⟨_, rfl⟩
            rw [ho] at RG RS RP
            have z0 : -9223372036854775808 ≤ o := by rcases RG with rfl | ⟨p, hp, rfl⟩ <;> omega
            have z1 : o ≤ 9223372036854775807 := by rcases RG with rfl | ⟨p, hp, rfl⟩ <;> omega
            clear ho RG
            go_wp2_with fail
            clear gy
            refine wp_region_noPanic ?_
            refine wp_region_R (inFirst (fun W => W.cell? ⟨gT, 0, none⟩ = some (.slice A1 b c1) ∧ W.cell? ⟨gT, 1, none⟩ = some (.slice A2 j c2)) 10) (by kernel_rfl) ?_
            have SS := Lib.hid (fun (W : World) (hW : Below wr.heap.size wr W) => (show W.cell? ⟨gT, 0, none⟩ = some (.slice A1 b c1) ∧ W.cell? ⟨gT, 1, none⟩ = some (.slice A2 j c2) from ⟨(I6.out.cs.below hW).cell 0 rfl, (I6.out.cs.below hW).cell 1 rfl⟩))
            have hS0 := SS.out wr.drew ⟨rfl, rfl, rfl, Nat.le_refl _, fun _ _ => rfl⟩
            refine anyR_takeD (i := 0) [1, 8] (.pointer (some ⟨gT, 1, none⟩)) rfl (by kernel_rfl) (by kernel_rfl) (by kernel_rfl) (by kernel_rfl) (by kernel_rfl) (fun _ _ _ h => h) (by assumption) ⟨by rfl, ?_⟩ ?_
            · intro W hW
              go_simp
            try simp only [Act.put, List.setIfInBounds_toArray, List.set_cons_zero, List.set_cons_succ, List.getElem_toArray, List.getElem_cons_zero, List.getElem_cons_succ]
            refine anyR_takeD (i := 1) [8] (.slice A2 j c2) rfl (by kernel_rfl) (by kernel_rfl) (by kernel_rfl) (by kernel_rfl) (by kernel_rfl) (fun _ _ _ h => h) (by assumption) ⟨by rfl, ?_⟩ ?_
            · intro W hW
              go_simp
            try simp only [Act.put, List.setIfInBounds_toArray, List.set_cons_zero, List.set_cons_succ, List.getElem_toArray, List.getElem_cons_zero, List.getElem_cons_succ]
            refine anyR_takeD (i := 2) [6, 7, 8] (.pointer (some ⟨gG, 0, none⟩)) rfl (by kernel_rfl) (by kernel_rfl) (by kernel_rfl) (by kernel_rfl) (by kernel_rfl) (fun _ _ _ h => h) (by assumption) ⟨by rfl, ?_⟩ ?_
            · intro W hW
              go_simp
            try simp only [Act.put, List.setIfInBounds_toArray, List.set_cons_zero, List.set_cons_succ, List.getElem_toArray, List.getElem_cons_zero, List.getElem_cons_succ]
            refine anyR_takeD (i := 3) [4, 6, 7, 8] (.pointer (some ⟨gT, 0, none⟩)) rfl (by kernel_rfl) (by kernel_rfl) (by kernel_rfl) (by kernel_rfl) (by kernel_rfl) (fun _ _ _ h => h) (by assumption) ⟨by rfl, ?_⟩ ?_
            · intro W hW
              go_simp
            try simp only [Act.put, List.setIfInBounds_toArray, List.set_cons_zero, List.set_cons_succ, List.getElem_toArray, List.getElem_cons_zero, List.getElem_cons_succ]
            refine anyR_takeD (i := 4) [6, 7, 8] (.slice A1 b c1) rfl (by kernel_rfl) (by kernel_rfl) (by kernel_rfl) (by kernel_rfl) (by kernel_rfl) (fun _ _ _ h => h) (by assumption) ⟨by rfl, ?_⟩ ?_
            · intro W hW
              go_simp
            try simp only [Act.put, List.setIfInBounds_toArray, List.set_cons_zero, List.set_cons_succ, List.getElem_toArray, List.getElem_cons_zero, List.getElem_cons_succ]
            refine anyR_takeD (i := 5) [6, 7, 8] (.int .i64 j) rfl (by kernel_rfl) (by kernel_rfl) (by kernel_rfl) (by kernel_rfl) (by kernel_rfl) (fun _ _ _ h => h) (by assumption) ⟨by rfl, ?_⟩ ?_
            · intro W hW
              go_simp
            try simp only [Act.put, List.setIfInBounds_toArray, List.set_cons_zero, List.set_cons_succ, List.getElem_toArray, List.getElem_cons_zero, List.getElem_cons_succ]
            refine anyR_one (i := 6) (by kernel_rfl) rfl ?_
            intro K hK
            go_simp
            go_at_call 75
            refine (RP.out wr.drew (D6.out.gr.gr.below ⟨rfl, rfl, rfl, Nat.le_refl _, fun _ _ => rfl⟩) (I6.out.o1.ints.below ⟨rfl, rfl, rfl, Nat.le_refl _, fun _ _ => rfl⟩)).mono ?_
            rintro e w5 ⟨rfl, u5'⟩
            have u5 : Below wr.heap.size wr w5 := ⟨u5'.os, u5'.tape, u5'.output, u5'.size, u5'.block⟩
            have t5 := SS.out w5 u5
            refine hK.out _ _ (fun _ => t5) ?_
            clear hK K
            try simp only [Act.put, List.setIfInBounds_toArray, List.set_cons_zero, List.set_cons_succ, List.getElem_toArray, List.getElem_cons_zero, List.getElem_cons_succ]
            refine anyR_one (i := 7) (by kernel_rfl) rfl ?_
            intro K hK
            go_simp
            have u6 := bel_trans u5 (bel_alloc w5 (.cells #[.int .i64 o] 2))
            have t6 := SS.out _ u6
            refine hK.out _ _ (fun _ => t6) ?_
            clear hK K
            try simp only [Act.put, List.setIfInBounds_toArray, List.set_cons_zero, List.set_cons_succ, List.getElem_toArray, List.getElem_cons_zero, List.getElem_cons_succ]
            refine anyR_one (i := 8) (by kernel_rfl) rfl ?_
            intro K hK
            have S7 := Lib.hid (I6.out.below u6)
            have B7 := Lib.hid (D6.out.below u6)
            have HCN := Lib.hid (show (w5.alloc (.cells #[.int .i64 o] 2)).cell? ⟨w5.heap.size, 0, none⟩ = some (.int .i64 o) from (Cs.new w5 [.int .i64 o] 2).cell 0 rfl)
            refine step_app_int _ (by rfl) _ _ (by rfl) W0.heap.size A2 j c2 _ (by rfl) S7.out.o2 o z0 z1 w5.heap.size (by rfl) HCN.out (by omega) B7.out.bl.size ?_
            intro A7 c7 w7' p1 p2 p3
            obtain ⟨CQ, SN⟩ := dk_app1 B7.out S7.out P6.out p1 p2 p3
            have SN' := Lib.hid SN
            have c70 := CQ.cell 0 rfl
            have c71 := CQ.cell 1 rfl
            have f71 := CQ.free 1 rfl
            clear p1 p2 p3 CQ SN
            refine hK.out _ _ (fun _ => ⟨c70, c71⟩) ?_
            clear hK K
            try simp only [Act.put, List.setIfInBounds_toArray, List.set_cons_zero, List.set_cons_succ, List.getElem_toArray, List.getElem_cons_zero, List.getElem_cons_succ]
            refine anyR_one (i := 9) (by kernel_rfl) rfl ?_
            intro K hK
            go_simp
            refine hK.out _ _ (fun _ => ⟨c70, c71⟩) ?_
            clear hK K
            try simp only [Act.put, List.setIfInBounds_toArray, List.set_cons_zero, List.set_cons_succ, List.getElem_toArray, List.getElem_cons_zero, List.getElem_cons_succ]
            refine anyR_one (i := 10) (by kernel_rfl) rfl ?_
            intro K hK
            go_simp
            refine hK.out _ _ (fun h => absurd h (by decide)) ?_
            clear hK K
            try simp only [Act.put, List.setIfInBounds_toArray, List.set_cons_zero, List.set_cons_succ, List.getElem_toArray, List.getElem_cons_zero, List.getElem_cons_succ]
            refine anyR_done (by kernel_rfl) ?_ _
            refine NoPanic.normal ?_
            clear hS0 t5 t6 c70 c71 f71
            go_wp2_with fail
            go_roundw
            case rel => exact ⟨j + 1, A7, c7, by omega, by go_num, SN'.out.1, by rw [RS.out]; exact SN'.out.2.1, SN'.out.2.2⟩
            case measure => simp [intOf]; omega
          · obtain rfl : j = b := by omega
            have hd := decide_eq_false (show ¬ (j : Int) < (j : Int) by omega)
            have DE0 := Lib.hid (D6.out.fin I6.out P4.out P6.out)
            by_cases hz0 : j = 0
            · subst hz0
              go_wp2_with fail
              have K1 := DE0.out.cr
              have f0 := K1.free 0 rfl
              have f1 := K1.free 1 rfl
              have p0 := K1.cell 0 rfl
              have p1 := K1.cell 1 rfl
              have K2 := Lib.hid ((K1.set 0 (.slice A1 0 c1) (by simp)).set 1 (.slice A2 0 c2) (by simp))
              have EN := Lib.hid (DE0.out.ended)
              have hS0 : (wr).drew.cell? ⟨gT, 0, none⟩ = some (.slice A1 0 c1) ∧ (wr).drew.cell? ⟨gT, 1, none⟩ = some (.slice A2 0 c2) := ⟨DE0.out.cs.cell 0 rfl, DE0.out.cs.cell 1 rfl⟩
              clear K1
              refine wp_region_noPanic ?_
              refine wp_region_R (inFirst (fun W => W.cell? ⟨gT, 0, none⟩ = some (.slice A1 0 c1) ∧ W.cell? ⟨gT, 1, none⟩ = some (.slice A2 0 c2)) 3) (by kernel_rfl) ?_
              refine anyR_take (i := 0) (.int .i64 y) rfl (by kernel_rfl) (by kernel_rfl) (by kernel_rfl) (by kernel_rfl) (fun _ _ _ h => h) (by assumption) ⟨by rfl, ?_⟩ ?_
              · intro W hW
                go_simp
              try simp only [Act.put, List.setIfInBounds_toArray, List.set_cons_zero, List.set_cons_succ, List.getElem_toArray, List.getElem_cons_zero, List.getElem_cons_succ]
              refine anyR_take (i := 1) (.agg #[.slice A1 0 c1, .slice A2 0 c2]) rfl (by kernel_rfl) (by kernel_rfl) (by kernel_rfl) (by kernel_rfl) (fun _ _ _ h => h) (by assumption) ⟨by rfl, ?_⟩ ?_
              · intro W hW
                go_simp
              try simp only [Act.put, List.setIfInBounds_toArray, List.set_cons_zero, List.set_cons_succ, List.getElem_toArray, List.getElem_cons_zero, List.getElem_cons_succ]
              refine anyR_take (i := 2) (.int .i64 y) rfl (by kernel_rfl) (by kernel_rfl) (by kernel_rfl) (by kernel_rfl) (fun _ _ _ h => h) (by assumption) ⟨by rfl, ?_⟩ ?_
              · intro W hW
                go_simp
              try simp only [Act.put, List.setIfInBounds_toArray, List.set_cons_zero, List.set_cons_succ, List.getElem_toArray, List.getElem_cons_zero, List.getElem_cons_succ]
              refine anyR_one (i := 3) (by kernel_rfl) rfl ?_
              intro K hK
              go_simp
              refine hK.out _ _ (fun h => absurd h (by decide)) ?_
              clear hK K
              try simp only [Act.put, List.setIfInBounds_toArray, List.set_cons_zero, List.set_cons_succ, List.getElem_toArray, List.getElem_cons_zero, List.getElem_cons_succ]
              refine anyR_done (by kernel_rfl) ?_ _
              refine NoPanic.normal ?_
              clear hS0
              go_wp2_with fail
              have r0 := K2.out.cell 0 (v := .slice A1 0 c1) (by simp)
              have r1 := K2.out.cell 1 (v := .slice A2 0 c2) (by simp)
              exact bodyPost_ret (v := .tuple #[.int .i64 y, .agg #[.slice A1 0 c1, .slice A2 0 c2]]) (by simp [results, Try.results87, go_sem, r0, r1]) rfl ⟨y, A1, 0, c1, _, A2, 0, c2, _, HY.out, rfl, EN.out.1, EN.out.2.1, ⟨EN.out.2.2.os, EN.out.2.2.tape, EN.out.2.2.output, EN.out.2.2.size, EN.out.2.2.block⟩, fun a ha => (DE0.out.a1 a ha).2, fun a ha => (DE0.out.a2 a ha).2⟩
            · go_wp2_with fail
              refine (one_any 3 g bA bn bc bs k _ D6.out.sr (by omega) (by omega) (by omega)).mono ?_
              rintro e w6 ⟨r, k6, rfl, k60, k61, hs6, hg6⟩
              have D7 := Lib.hid (D6.out.src hs6 hg6)
              have I7 := Lib.hid (I6.out.src hg6 (by omega) P4.out P6.out)
              have DE1 := Lib.hid (D7.out.fin I7.out P4.out P6.out)
              have gy7 := (by obtain ⟨_, _, _, _, C, _, _⟩ := D7.out.gr.gr; exact C.cell 0 rfl : w6.cell? ⟨gG, 0, none⟩ = some (.int .i64 j))
              clear hs6 hg6 gy D6 I6 DE0
              cases r
              · go_wp2_with fail
                have K1 := DE1.out.cr
                have f0 := K1.free 0 rfl
                have f1 := K1.free 1 rfl
                have p0 := K1.cell 0 rfl
                have p1 := K1.cell 1 rfl
                have K2 := Lib.hid ((K1.set 0 (.slice A1 j c1) (by simp)).set 1 (.slice A2 j c2) (by simp))
                have EN := Lib.hid (DE1.out.ended)
                have hS0 : (w6).drew.cell? ⟨gT, 0, none⟩ = some (.slice A1 j c1) ∧ (w6).drew.cell? ⟨gT, 1, none⟩ = some (.slice A2 j c2) := ⟨DE1.out.cs.cell 0 rfl, DE1.out.cs.cell 1 rfl⟩
                clear K1
                refine wp_region_noPanic ?_
                refine wp_region_R (inFirst (fun W => W.cell? ⟨gT, 0, none⟩ = some (.slice A1 j c1) ∧ W.cell? ⟨gT, 1, none⟩ = some (.slice A2 j c2)) 3) (by kernel_rfl) ?_
                refine anyR_take (i := 0) (.int .i64 y) rfl (by kernel_rfl) (by kernel_rfl) (by kernel_rfl) (by kernel_rfl) (fun _ _ _ h => h) (by assumption) ⟨by rfl, ?_⟩ ?_
                · intro W hW
                  go_simp
                try simp only [Act.put, List.setIfInBounds_toArray, List.set_cons_zero, List.set_cons_succ, List.getElem_toArray, List.getElem_cons_zero, List.getElem_cons_succ]
                refine anyR_take (i := 1) (.agg #[.slice A1 j c1, .slice A2 j c2]) rfl (by kernel_rfl) (by kernel_rfl) (by kernel_rfl) (by kernel_rfl) (fun _ _ _ h => h) (by assumption) ⟨by rfl, ?_⟩ ?_
                · intro W hW
                  go_simp
                try simp only [Act.put, List.setIfInBounds_toArray, List.set_cons_zero, List.set_cons_succ, List.getElem_toArray, List.getElem_cons_zero, List.getElem_cons_succ]
                refine anyR_take (i := 2) (.int .i64 y) rfl (by kernel_rfl) (by kernel_rfl) (by kernel_rfl) (by kernel_rfl) (fun _ _ _ h => h) (by assumption) ⟨by rfl, ?_⟩ ?_
                · intro W hW
                  go_simp
                try simp only [Act.put, List.setIfInBounds_toArray, List.set_cons_zero, List.set_cons_succ, List.getElem_toArray, List.getElem_cons_zero, List.getElem_cons_succ]
                refine anyR_one (i := 3) (by kernel_rfl) rfl ?_
                intro K hK
                go_simp
                refine hK.out _ _ (fun h => absurd h (by decide)) ?_
                clear hK K
                try simp only [Act.put, List.setIfInBounds_toArray, List.set_cons_zero, List.set_cons_succ, List.getElem_toArray, List.getElem_cons_zero, List.getElem_cons_succ]
                refine anyR_done (by kernel_rfl) ?_ _
                refine NoPanic.normal ?_
                clear hS0
                go_wp2_with fail
                have r0 := K2.out.cell 0 (v := .slice A1 j c1) (by simp)
                have r1 := K2.out.cell 1 (v := .slice A2 j c2) (by simp)
                exact bodyPost_ret (v := .tuple #[.int .i64 y, .agg #[.slice A1 j c1, .slice A2 j c2]]) (by simp [results, Try.results87, go_sem, r0, r1]) rfl ⟨y, A1, j, c1, _, A2, j, c2, _, HY.out, rfl, EN.out.1, EN.out.2.1, ⟨EN.out.2.2.os, EN.out.2.2.tape, EN.out.2.2.output, EN.out.2.2.size, EN.out.2.2.block⟩, fun a ha => (DE1.out.a1 a ha).2, fun a ha => (DE1.out.a2 a ha).2⟩
              · clear DE1
                go_wp2_with fail
                refine (pick_any j g bA bn bc bs k6 _ D7.out.sr (by omega) (by omega) (by omega)).mono ?_
                rintro e w7 ⟨q, k7, rfl, hq, k70, k71, hs7, hg7⟩
                obtain ⟨q0, q1⟩ := hq.lt (by omega)
                obtain ⟨q, rfl⟩ := Int.eq_ofNat_of_zero_le q0
                have D8 := Lib.hid (D7.out.src hs7 hg7)
                have I8 := Lib.hid (I7.out.src hg7 (by omega) P4.out P6.out)
                clear hs7 hg7 gy7 D7 I7 hq
                go_wp2_with fail
                refine (pick_any 5 g bA bn bc bs k7 _ D8.out.sr (by omega) (by omega) (by omega)).mono ?_
                rintro e w8 ⟨p, k8, rfl, hp, k80, k81, hs8, hg8⟩
                obtain ⟨p0, p1⟩ := hp.lt (by omega)
                have D9 := Lib.hid (D8.out.src hs8 hg8)
                have I9 := Lib.hid (I8.out.src hg8 (by omega) P4.out P6.out)
                have gy9 := (by obtain ⟨_, _, _, _, C, _, _⟩ := D9.out.gr.gr; exact C.cell 0 rfl : w8.cell? ⟨gG, 0, none⟩ = some (.int .i64 j))
                clear hs8 hg8 D8 I8 hp
                go_upto_block 4 with fail
                go_cut [] from 14 (fun wc => ∃ (B1 : Option Addr) (j1 d1 : Nat) (y1 : List Int) (B2 : Option Addr) (j2 d2 : Nat) (y2 : List Int), DE W0 wc w.heap.size gT B1 j1 d1 y1 B2 j2 d2 y2)
                case first =>
                  obtain ⟨h1, rfl, _, _⟩ := I9.out.o1.form (by omega)
                  obtain ⟨h2, rfl, _, _⟩ := I9.out.o2.form (by omega)
                  have q1' : (q : Int) < (j : Int) := q1
                  have ew : IntKind.i64.wrap ((j : Int) + 2) = ((j + 2 : Nat) : Int) := by rw [show ((j + 2 : Nat) : Int) = (j : Int) + 2 by omega]; exact IntWalk.i64_in _ (by omega)
                  have jj0 : (0 : Int) ≤ (j : Int) := by omega
                  have hp5 : p = 0 ∨ p = 1 ∨ p = 2 ∨ p = 3 ∨ p = 4 := by omega
                  rcases hp5 with rfl | rfl | rfl | rfl | rfl
                  · go_wp2_with fail
                    refine wp_region_noPanic ?_
                    refine wp_region_R (inFirst (fun W => W.cell? ⟨gT, 0, none⟩ = some (.slice (some ⟨h1, 0, none⟩) j c1) ∧ W.cell? ⟨gG, 0, none⟩ = some (.int .i64 j)) 11) (by kernel_rfl) ?_
                    have hS0 : w8.drew.cell? ⟨gT, 0, none⟩ = some (.slice (some ⟨h1, 0, none⟩) j c1) ∧ w8.drew.cell? ⟨gG, 0, none⟩ = some (.int .i64 j) := ⟨I9.out.cs.cell 0 rfl, gy9⟩
                    refine anyR_take (i := 0) (.pointer (some ⟨gT, 0, none⟩)) rfl (by kernel_rfl) (by kernel_rfl) (by kernel_rfl) (by kernel_rfl) (fun _ _ _ h => h) (by assumption) ⟨by rfl, ?_⟩ ?_
                    · intro W hW
                      go_simp
                    try simp only [Act.put, List.setIfInBounds_toArray, List.set_cons_zero, List.set_cons_succ, List.getElem_toArray, List.getElem_cons_zero, List.getElem_cons_succ]
                    refine anyR_take (i := 1) (.slice (some ⟨h1, 0, none⟩) j c1) rfl (by kernel_rfl) (by kernel_rfl) (by kernel_rfl) (by kernel_rfl) (fun _ _ _ h => h) (by assumption) ⟨by rfl, ?_⟩ ?_
                    · intro W hW
                      go_simp
                    try simp only [Act.put, List.setIfInBounds_toArray, List.set_cons_zero, List.set_cons_succ, List.getElem_toArray, List.getElem_cons_zero, List.getElem_cons_succ]
                    refine anyR_take (i := 2) (.int .i64 q) rfl (by kernel_rfl) (by kernel_rfl) (by kernel_rfl) (by kernel_rfl) (fun _ _ _ h => h) (by assumption) ⟨by rfl, ?_⟩ ?_
                    · intro W hW
                      go_simp
                    try simp only [Act.put, List.setIfInBounds_toArray, List.set_cons_zero, List.set_cons_succ, List.getElem_toArray, List.getElem_cons_zero, List.getElem_cons_succ]
                    refine anyR_take (i := 3) (.pointer (some ⟨g, 0, none⟩)) rfl (by kernel_rfl) (by kernel_rfl) (by kernel_rfl) (by kernel_rfl) (fun _ _ _ h => h) (by assumption) ⟨by rfl, ?_⟩ ?_
                    · intro W hW
                      go_simp
                    try simp only [Act.put, List.setIfInBounds_toArray, List.set_cons_zero, List.set_cons_succ, List.getElem_toArray, List.getElem_cons_zero, List.getElem_cons_succ]
                    refine anyR_take (i := 4) (.pointer (some ⟨gG, 0, none⟩)) rfl (by kernel_rfl) (by kernel_rfl) (by kernel_rfl) (by kernel_rfl) (fun _ _ _ h => h) (by assumption) ⟨by rfl, ?_⟩ ?_
                    · intro W hW
                      go_simp
                    try simp only [Act.put, List.setIfInBounds_toArray, List.set_cons_zero, List.set_cons_succ, List.getElem_toArray, List.getElem_cons_zero, List.getElem_cons_succ]
                    refine anyR_take (i := 5) (.pointer (some ⟨gG, 0, none⟩)) rfl (by kernel_rfl) (by kernel_rfl) (by kernel_rfl) (by kernel_rfl) (fun _ _ _ h => h) (by assumption) ⟨by rfl, ?_⟩ ?_
                    · intro W hW
                      go_simp
                    try simp only [Act.put, List.setIfInBounds_toArray, List.set_cons_zero, List.set_cons_succ, List.getElem_toArray, List.getElem_cons_zero, List.getElem_cons_succ]
                    refine anyR_take (i := 6) (.pointer (some ⟨gG, 0, none⟩)) rfl (by kernel_rfl) (by kernel_rfl) (by kernel_rfl) (by kernel_rfl) (fun _ _ _ h => h) (by assumption) ⟨by rfl, ?_⟩ ?_
                    · intro W hW
                      go_simp
                    try simp only [Act.put, List.setIfInBounds_toArray, List.set_cons_zero, List.set_cons_succ, List.getElem_toArray, List.getElem_cons_zero, List.getElem_cons_succ]
                    refine anyR_take (i := 7) (.int .i64 j) rfl (by kernel_rfl) (by kernel_rfl) (by kernel_rfl) (by kernel_rfl) (fun _ _ _ h => h) (by assumption) ⟨by rfl, ?_⟩ ?_
                    · intro W hW
                      go_simp
                    try simp only [Act.put, List.setIfInBounds_toArray, List.set_cons_zero, List.set_cons_succ, List.getElem_toArray, List.getElem_cons_zero, List.getElem_cons_succ]
                    refine anyR_take (i := 8) (.int .i64 ((j + 2 : Nat) : Int)) rfl (by kernel_rfl) (by kernel_rfl) (by kernel_rfl) (by kernel_rfl) (fun _ _ _ h => h) (by assumption) ⟨by rfl, ?_⟩ ?_
                    · intro W hW
                      go_simp
                    try simp only [Act.put, List.setIfInBounds_toArray, List.set_cons_zero, List.set_cons_succ, List.getElem_toArray, List.getElem_cons_zero, List.getElem_cons_succ]
                    refine anyR_one (i := 9) (by kernel_rfl) rfl ?_
                    intro K hK
                    go_simp
                    go_at_call 95
                    refine (pick_any ((j + 2 : Nat) : Int) g bA bn bc bs k8 w8.drew D9.out.sr (by omega) (by omega) (by omega)).mono ?_
                    rintro e wP ⟨v, kP, rfl, hv, kP0, kP1, hsP, hgP0⟩
                    have hgP : w8.grownBy wP (some g) := ⟨hgP0.os, hgP0.tape, hgP0.output, hgP0.size, hgP0.block⟩
                    obtain ⟨v0, v1⟩ := hv.lt (by omega)
                    have DP := Lib.hid (D9.out.src hsP hgP)
                    have IP := Lib.hid (I9.out.src hgP (by omega) P4.out P6.out)
                    have tS : wP.cell? ⟨gT, 0, none⟩ = some (.slice (some ⟨h1, 0, none⟩) j c1) ∧ wP.cell? ⟨gG, 0, none⟩ = some (.int .i64 j) := ⟨IP.out.cs.cell 0 rfl, by obtain ⟨_, _, _, _, C, _, _⟩ := DP.out.gr.gr; exact C.cell 0 rfl⟩
                    refine hK.out _ _ (fun _ => tS) ?_
                    clear hsP hgP hgP0 hS0
                    clear hK K
                    try simp only [Act.put, List.setIfInBounds_toArray, List.set_cons_zero, List.set_cons_succ, List.getElem_toArray, List.getElem_cons_zero, List.getElem_cons_succ]
                    refine anyR_take (i := 10) (.pointer (some ⟨h1, q, none⟩)) rfl (by kernel_rfl) (by kernel_rfl) (by kernel_rfl) (by kernel_rfl) (fun _ _ _ h => h) (by assumption) ⟨by rfl, ?_⟩ ?_
                    · intro W hW
                      go_simp
                    try simp only [Act.put, List.setIfInBounds_toArray, List.set_cons_zero, List.set_cons_succ, List.getElem_toArray, List.getElem_cons_zero, List.getElem_cons_succ]
                    have cq := IP.out.o1.cell (lst_at (mxF F) (show q < j by omega))
                    have fq := IP.out.o1.free q
                    refine anyR_one (i := 11) (by kernel_rfl) rfl ?_
                    intro K hK
                    go_simp
                    refine hK.out _ _ (fun h => absurd h (by decide)) ?_
                    clear hK K
                    try simp only [Act.put, List.setIfInBounds_toArray, List.set_cons_zero, List.set_cons_succ, List.getElem_toArray, List.getElem_cons_zero, List.getElem_cons_succ]
                    refine anyR_done (by kernel_rfl) ?_ _
                    refine NoPanic.normal ?_
                    have EE := Lib.hid (dk_put0 DP.out IP.out P4.out P6.out q v ⟨by omega, by omega⟩)
                    clear tS cq fq
                    go_wp2_with fail
                    go_meet
                    case rel => exact ⟨_, _, _, _, _, _, _, _, EE.out⟩
                  · have hk := Lib.hid (fun (v : Int) (h0 : 0 ≤ v) (h1 : v < ((j + 2 : Nat) : Int)) => (show IntKind.i64.wrap (v - 1) = v - 1 from IntWalk.i64_in _ (by omega)))
                    go_wp2_with fail
                    refine wp_region_noPanic ?_
                    refine wp_region_R (inFirst (fun W => W.cell? ⟨gT, 1, none⟩ = some (.slice (some ⟨h2, 0, none⟩) j c2) ∧ W.cell? ⟨gG, 0, none⟩ = some (.int .i64 j)) 12) (by kernel_rfl) ?_
                    have hS0 : w8.drew.cell? ⟨gT, 1, none⟩ = some (.slice (some ⟨h2, 0, none⟩) j c2) ∧ w8.drew.cell? ⟨gG, 0, none⟩ = some (.int .i64 j) := ⟨I9.out.cs.cell 1 rfl, gy9⟩
                    refine anyR_take (i := 0) (.pointer (some ⟨gT, 1, none⟩)) rfl (by kernel_rfl) (by kernel_rfl) (by kernel_rfl) (by kernel_rfl) (fun _ _ _ h => h) (by assumption) ⟨by rfl, ?_⟩ ?_
                    · intro W hW
                      go_simp
                    try simp only [Act.put, List.setIfInBounds_toArray, List.set_cons_zero, List.set_cons_succ, List.getElem_toArray, List.getElem_cons_zero, List.getElem_cons_succ]
                    refine anyR_take (i := 1) (.slice (some ⟨h2, 0, none⟩) j c2) rfl (by kernel_rfl) (by kernel_rfl) (by kernel_rfl) (by kernel_rfl) (fun _ _ _ h => h) (by assumption) ⟨by rfl, ?_⟩ ?_
                    · intro W hW
                      go_simp
                    try simp only [Act.put, List.setIfInBounds_toArray, List.set_cons_zero, List.set_cons_succ, List.getElem_toArray, List.getElem_cons_zero, List.getElem_cons_succ]
                    refine anyR_take (i := 2) (.int .i64 q) rfl (by kernel_rfl) (by kernel_rfl) (by kernel_rfl) (by kernel_rfl) (fun _ _ _ h => h) (by assumption) ⟨by rfl, ?_⟩ ?_
                    · intro W hW
                      go_simp
                    try simp only [Act.put, List.setIfInBounds_toArray, List.set_cons_zero, List.set_cons_succ, List.getElem_toArray, List.getElem_cons_zero, List.getElem_cons_succ]
                    refine anyR_take (i := 3) (.pointer (some ⟨g, 0, none⟩)) rfl (by kernel_rfl) (by kernel_rfl) (by kernel_rfl) (by kernel_rfl) (fun _ _ _ h => h) (by assumption) ⟨by rfl, ?_⟩ ?_
                    · intro W hW
                      go_simp
                    try simp only [Act.put, List.setIfInBounds_toArray, List.set_cons_zero, List.set_cons_succ, List.getElem_toArray, List.getElem_cons_zero, List.getElem_cons_succ]
                    refine anyR_take (i := 4) (.pointer (some ⟨gG, 0, none⟩)) rfl (by kernel_rfl) (by kernel_rfl) (by kernel_rfl) (by kernel_rfl) (fun _ _ _ h => h) (by assumption) ⟨by rfl, ?_⟩ ?_
                    · intro W hW
                      go_simp
                    try simp only [Act.put, List.setIfInBounds_toArray, List.set_cons_zero, List.set_cons_succ, List.getElem_toArray, List.getElem_cons_zero, List.getElem_cons_succ]
                    refine anyR_take (i := 5) (.pointer (some ⟨gG, 0, none⟩)) rfl (by kernel_rfl) (by kernel_rfl) (by kernel_rfl) (by kernel_rfl) (fun _ _ _ h => h) (by assumption) ⟨by rfl, ?_⟩ ?_
                    · intro W hW
                      go_simp
                    try simp only [Act.put, List.setIfInBounds_toArray, List.set_cons_zero, List.set_cons_succ, List.getElem_toArray, List.getElem_cons_zero, List.getElem_cons_succ]
                    refine anyR_take (i := 6) (.pointer (some ⟨gG, 0, none⟩)) rfl (by kernel_rfl) (by kernel_rfl) (by kernel_rfl) (by kernel_rfl) (fun _ _ _ h => h) (by assumption) ⟨by rfl, ?_⟩ ?_
                    · intro W hW
                      go_simp
                    try simp only [Act.put, List.setIfInBounds_toArray, List.set_cons_zero, List.set_cons_succ, List.getElem_toArray, List.getElem_cons_zero, List.getElem_cons_succ]
                    refine anyR_take (i := 7) (.int .i64 j) rfl (by kernel_rfl) (by kernel_rfl) (by kernel_rfl) (by kernel_rfl) (fun _ _ _ h => h) (by assumption) ⟨by rfl, ?_⟩ ?_
                    · intro W hW
                      go_simp
                    try simp only [Act.put, List.setIfInBounds_toArray, List.set_cons_zero, List.set_cons_succ, List.getElem_toArray, List.getElem_cons_zero, List.getElem_cons_succ]
                    refine anyR_take (i := 8) (.int .i64 ((j + 2 : Nat) : Int)) rfl (by kernel_rfl) (by kernel_rfl) (by kernel_rfl) (by kernel_rfl) (fun _ _ _ h => h) (by assumption) ⟨by rfl, ?_⟩ ?_
                    · intro W hW
                      go_simp
                    try simp only [Act.put, List.setIfInBounds_toArray, List.set_cons_zero, List.set_cons_succ, List.getElem_toArray, List.getElem_cons_zero, List.getElem_cons_succ]
                    refine anyR_one (i := 9) (by kernel_rfl) rfl ?_
                    intro K hK
                    go_simp
                    go_at_call 95
                    refine (pick_any ((j + 2 : Nat) : Int) g bA bn bc bs k8 w8.drew D9.out.sr (by omega) (by omega) (by omega)).mono ?_
                    rintro e wP ⟨v, kP, rfl, hv, kP0, kP1, hsP, hgP0⟩
                    have hgP : w8.grownBy wP (some g) := ⟨hgP0.os, hgP0.tape, hgP0.output, hgP0.size, hgP0.block⟩
                    obtain ⟨v0, v1⟩ := hv.lt (by omega)
                    have DP := Lib.hid (D9.out.src hsP hgP)
                    have IP := Lib.hid (I9.out.src hgP (by omega) P4.out P6.out)
                    have tS : wP.cell? ⟨gT, 1, none⟩ = some (.slice (some ⟨h2, 0, none⟩) j c2) ∧ wP.cell? ⟨gG, 0, none⟩ = some (.int .i64 j) := ⟨IP.out.cs.cell 1 rfl, by obtain ⟨_, _, _, _, C, _, _⟩ := DP.out.gr.gr; exact C.cell 0 rfl⟩
                    refine hK.out _ _ (fun _ => tS) ?_
                    clear hsP hgP hgP0 hS0
                    clear hK K
                    try simp only [Act.put, List.setIfInBounds_toArray, List.set_cons_zero, List.set_cons_succ, List.getElem_toArray, List.getElem_cons_zero, List.getElem_cons_succ]
                    have ew2 := hk.out v v0 v1
                    refine anyR_take (i := 10) (.int .i64 (v - 1)) rfl (by kernel_rfl) (by kernel_rfl) (by kernel_rfl) (by kernel_rfl) (fun _ _ _ h => h) (by assumption) ⟨by rfl, ?_⟩ ?_
                    · intro W hW
                      go_simp
                    try simp only [Act.put, List.setIfInBounds_toArray, List.set_cons_zero, List.set_cons_succ, List.getElem_toArray, List.getElem_cons_zero, List.getElem_cons_succ]
                    refine anyR_take (i := 11) (.pointer (some ⟨h2, q, none⟩)) rfl (by kernel_rfl) (by kernel_rfl) (by kernel_rfl) (by kernel_rfl) (fun _ _ _ h => h) (by assumption) ⟨by rfl, ?_⟩ ?_
                    · intro W hW
                      go_simp
                    try simp only [Act.put, List.setIfInBounds_toArray, List.set_cons_zero, List.set_cons_succ, List.getElem_toArray, List.getElem_cons_zero, List.getElem_cons_succ]
                    have cq := IP.out.o2.cell (lst_at (fun q => rp (attM es q) (mxF F) j) (show q < j by omega))
                    have fq := IP.out.o2.free q
                    refine anyR_one (i := 12) (by kernel_rfl) rfl ?_
                    intro K hK
                    go_simp
                    refine hK.out _ _ (fun h => absurd h (by decide)) ?_
                    clear hK K
                    try simp only [Act.put, List.setIfInBounds_toArray, List.set_cons_zero, List.set_cons_succ, List.getElem_toArray, List.getElem_cons_zero, List.getElem_cons_succ]
                    refine anyR_done (by kernel_rfl) ?_ _
                    refine NoPanic.normal ?_
                    have EE := Lib.hid (dk_put1 DP.out IP.out P4.out P6.out q (v - 1) ⟨by omega, by omega⟩)
                    clear tS cq fq
                    go_wp2_with fail
                    go_meet
                    case rel => exact ⟨_, _, _, _, _, _, _, _, EE.out⟩
                  · have c0 := I9.out.cs.cell 0 rfl
                    have f0 := I9.out.cs.free 0 rfl
                    have hc1 := I9.out.o1.ints.2.1
                    have j1 : (1 : Int) ≤ (j : Int) := by omega
                    by_cases hcc : c1 = 1
                    · subst hcc
                      have EE := Lib.hid (dk_tail1 D9.out I9.out P4.out P6.out (by omega))
                      go_wp2_with fail
                      go_meet
                      case rel => exact ⟨_, _, _, _, _, _, _, _, EE.out⟩
                    · have hcd : ¬ 1 = c1 := fun e => hcc e.symm
                      have EE := Lib.hid (dk_tail D9.out I9.out P4.out P6.out (by omega))
                      go_wp2_with fail
                      go_meet
                      case rel => exact ⟨_, _, _, _, _, _, _, _, EE.out⟩
                  · have c0 := I9.out.cs.cell 1 rfl
                    have bl9 := D9.out.bl.size
                    have STEP := Lib.hid (fun A7 c7 w7 p1 p2 p3 => dk_more (A7 := A7) (n7 := j + 1) (c7 := c7) (w7 := w7) (z7 := lst j (fun q => rp (attM es q) (mxF F) j) ++ [-1]) D9.out I9.out P4.out P6.out p1 p2 p3)
                    go_wp2_with (at_builtin; refine app_int_at w8 rfl _ _ rfl W0.heap.size (some ⟨h2, 0, none⟩) j c2 _ rfl I9.out.o2 (-1) (by omega) (by omega) rfl (by omega) bl9 ?_; intro A7 c7 w7' p1 p2 p3; obtain ⟨CQ, SN⟩ := STEP.out A7 c7 w7' p1 p2 p3; have EE := Lib.hid SN; have c70 := CQ.cell 1 rfl; have f70 := CQ.free 1 rfl; clear p1 p2 p3 CQ SN)
                    go_meet
                    case rel => exact ⟨_, _, _, _, _, _, _, _, EE.out⟩
                  · have c0 := I9.out.cs.cell 0 rfl
                    have cq := I9.out.o1.cell (lst_at (mxF F) (show q < j by omega))
                    have fq := I9.out.o1.free q
                    have EE := Lib.hid (dk_put0 D9.out I9.out P4.out P6.out q (-1) ⟨by omega, by omega⟩)
                    go_wp2_with fail
                    go_meet
                    case rel => exact ⟨_, _, _, _, _, _, _, _, EE.out⟩
                case rest =>
                  obtain ⟨B1, j1, d1, y1, B2, j2, d2, y2, de⟩ := hcut
                  have DE3 := Lib.hid de
                  clear de gy9 D9 I9
                  go_wp2_with fail
                  have K1 := DE3.out.cr
                  have f0 := K1.free 0 rfl
                  have f1 := K1.free 1 rfl
                  have p0 := K1.cell 0 rfl
                  have p1 := K1.cell 1 rfl
                  have K2 := Lib.hid ((K1.set 0 (.slice B1 j1 d1) (by simp)).set 1 (.slice B2 j2 d2) (by simp))
                  have EN := Lib.hid (DE3.out.ended)
                  have hS0 : (wc).drew.cell? ⟨gT, 0, none⟩ = some (.slice B1 j1 d1) ∧ (wc).drew.cell? ⟨gT, 1, none⟩ = some (.slice B2 j2 d2) := ⟨DE3.out.cs.cell 0 rfl, DE3.out.cs.cell 1 rfl⟩
                  clear K1
                  refine wp_region_noPanic ?_
                  refine wp_region_R (inFirst (fun W => W.cell? ⟨gT, 0, none⟩ = some (.slice B1 j1 d1) ∧ W.cell? ⟨gT, 1, none⟩ = some (.slice B2 j2 d2)) 3) (by kernel_rfl) ?_
                  refine anyR_take (i := 0) (.int .i64 y) rfl (by kernel_rfl) (by kernel_rfl) (by kernel_rfl) (by kernel_rfl) (fun _ _ _ h => h) (by assumption) ⟨by rfl, ?_⟩ ?_
                  · intro W hW
                    go_simp
                  try simp only [Act.put, List.setIfInBounds_toArray, List.set_cons_zero, List.set_cons_succ, List.getElem_toArray, List.getElem_cons_zero, List.getElem_cons_succ]
                  refine anyR_take (i := 1) (.agg #[.slice B1 j1 d1, .slice B2 j2 d2]) rfl (by kernel_rfl) (by kernel_rfl) (by kernel_rfl) (by kernel_rfl) (fun _ _ _ h => h) (by assumption) ⟨by rfl, ?_⟩ ?_
                  · intro W hW
                    go_simp
                  try simp only [Act.put, List.setIfInBounds_toArray, List.set_cons_zero, List.set_cons_succ, List.getElem_toArray, List.getElem_cons_zero, List.getElem_cons_succ]
                  refine anyR_take (i := 2) (.int .i64 y) rfl (by kernel_rfl) (by kernel_rfl) (by kernel_rfl) (by kernel_rfl) (fun _ _ _ h => h) (by assumption) ⟨by rfl, ?_⟩ ?_
                  · intro W hW
                    go_simp
                  try simp only [Act.put, List.setIfInBounds_toArray, List.set_cons_zero, List.set_cons_succ, List.getElem_toArray, List.getElem_cons_zero, List.getElem_cons_succ]
                  refine anyR_one (i := 3) (by kernel_rfl) rfl ?_
                  intro K hK
                  go_simp
                  refine hK.out _ _ (fun h => absurd h (by decide)) ?_
                  clear hK K
                  try simp only [Act.put, List.setIfInBounds_toArray, List.set_cons_zero, List.set_cons_succ, List.getElem_toArray, List.getElem_cons_zero, List.getElem_cons_succ]
                  refine anyR_done (by kernel_rfl) ?_ _
                  refine NoPanic.normal ?_
                  clear hS0
                  go_wp2_with fail
                  have r0 := K2.out.cell 0 (v := .slice B1 j1 d1) (by simp)
                  have r1 := K2.out.cell 1 (v := .slice B2 j2 d2) (by simp)
                  exact bodyPost_ret (v := .tuple #[.int .i64 y, .agg #[.slice B1 j1 d1, .slice B2 j2 d2]]) (by simp [results, Try.results87, go_sem, r0, r1]) rfl ⟨y, B1, j1, d1, _, B2, j2, d2, _, HY.out, rfl, EN.out.1, EN.out.2.1, ⟨EN.out.2.2.os, EN.out.2.2.tape, EN.out.2.2.output, EN.out.2.2.size, EN.out.2.2.block⟩, fun a ha => (DE3.out.a1 a ha).2, fun a ha => (DE3.out.a2 a ha).2⟩
end Go.Proofs.Yteejfjgofpolkaa
