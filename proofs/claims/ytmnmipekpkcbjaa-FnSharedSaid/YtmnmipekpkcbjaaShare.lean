/- The program's ShareOut, walked: floors, a stable sort by insertion, one more for the first ones. -/
import Derived.Test.YtmnmipekpkcbjaaShareMath
import Derived.Test.YtmnmipekpkcbjaaOwnN
import Derived.Test.YtmnmipekpkcbjaaCells
import Derived.Deep.DeepCutAuto
import Derived.Deep.RegionHeld3
namespace Go.Proofs.Ytmnmipekpkcbjaa
set_option linter.unusedVariables false
open Go.RowKit
/-- What the comparison captured: the total, the weights, their sum, each in a block other than the row that is sorted. -/
structure CapW (w : World) (g : Nat) (a2 a3 a6 : Addr) (t s : Int) (A : Option Addr) (n c : Nat) (ws : List Int) : Prop where
  c2 : w.cell? a2 = some (.int .i64 t)
  c3 : w.cell? a3 = some (.slice A n c)
  c6 : w.cell? a6 = some (.int .i64 s)
  iw : Ints .i64 w A n c ws
  n2 : a2.block ≠ g
  n3 : a3.block ≠ g
  n6 : a6.block ≠ g
  na : ∀ a, A = some a → a.block ≠ g
theorem CapW.kept {w w' : World} {g : Nat} {a2 a3 a6 : Addr} {t s : Int} {A : Option Addr} {n c : Nat} {ws : List Int} (h : CapW w g a2 a3 a6 t s A n c ws) (hg : w.grownBy w' (some g)) : CapW w' g a2 a3 a6 t s A n c ws := by
  have key : ∀ (a : Addr) (v : Value), w.cell? a = some v → a.block ≠ g → w'.cell? a = some v := fun a v hc hne => by
    rw [World.cell?_of_block (w := w) (hg.block a.block (World.block_lt_of_cell? w _ hc) (fun e => by injection e with e; exact hne e))]
    exact hc
  exact ⟨key _ _ h.c2 h.n2, key _ _ h.c3 h.n3, key _ _ h.c6 h.n6, h.iw.kept hg (fun a e => fun e2 => by injection e2 with e2; exact h.na a e e2), h.n2, h.n3, h.n6, h.na⟩
def fR (t s : Int) (ws : List Int) (i : Int) : Int := rmd t s (ws.getD i.toNat 0)
theorem fR_at {t s : Int} {ws : List Int} {i : Nat} {u : Int} (h : ws[i]? = some u) : fR t s ws i = rmd t s u := by simp [fR, List.getD_eq_getElem?_getD, h]
/-- What a comparison says. -/
def cmp3 (x y : Int) : Int := if y < x then -1 else if x < y then 1 else 0
theorem cmp3_lt {x y : Int} : cmp3 x y < 0 ↔ y < x := by
  unfold cmp3
  split
  · simp_all
  · split <;> omega
theorem cmp3_bd (x y : Int) : -1 ≤ cmp3 x y ∧ cmp3 x y ≤ 1 := by
  unfold cmp3
  split
  · omega
  · split <;> omega
theorem quiet_more {P : Program} {f : FuncId} {args : Array Value} {w : World} {n : Nat} {v : Value}
    (h : Calls P f args (w.drewN n) fun e w' => e = .returned v ∧ ∃ m, w' = (w.drewN n).drewN m) : Calls P f args (w.drewN n) fun e w'' => e = .returned v ∧ ∃ m, w'' = w.drewN m :=
  h.mono fun _ _ ⟨he, m, hm⟩ => ⟨he, n + m, by rw [hm, World.drewN_drewN]⟩
set_option maxRecDepth 100000 in
theorem shareCmp_any (g : Nat) (a2 a3 a6 : Addr) (t s : Int) (A : Option Addr) (n c : Nat) (ws : List Int) (i j : Nat) (w : World) (h : CapW w g a2 a3 a6 t s A n c ws) (hi : i < n) (hj : j < n)
    (t0 : 0 ≤ t) (t1 : t ≤ 1000) (s0 : 1 ≤ s) (s1 : s ≤ 1000) (hw : ∀ w ∈ ws, 0 ≤ w ∧ w ≤ 1000) :
    Calls Try.prog 11 #[.int .i64 i, .int .i64 j, .pointer (some a2), .pointer (some a3), .pointer (some a6)] w fun e w' => e = .returned (.int .i64 (cmp3 (fR t s ws i) (fR t s ws j))) ∧ ∃ m, w' = w.drewN m := by
  obtain ⟨c2, c3, c6, iw, n2, n3, n6, na⟩ := h
  have hm := iw.short
  obtain ⟨bI, oI, u, rfl, hbI, cI, i1, i2, hi2⟩ := iw.at hi
  obtain ⟨bJ, oJ, v, hAJ, hbJ, cJ, j1, j2, hj2⟩ := iw.at hj
  simp only [Option.some.injEq, Addr.mk.injEq, and_true] at hAJ
  obtain ⟨rfl, rfl⟩ := hAJ
  have bu := hw u (mem_of_at hi2.out)
  have bv := hw v (mem_of_at hj2.out)
  rw [fR_at hi2.out, fR_at hj2.out]
  clear hw n2 n3 n6 na iw
  have m0 : 0 ≤ t * u := Int.mul_nonneg t0 bu.1
  have m1 : t * u ≤ 1000 * 1000 := Int.mul_le_mul t1 bu.2 bu.1 (by omega)
  have k0 : 0 ≤ t * v := Int.mul_nonneg t0 bv.1
  have k1 : t * v ≤ 1000 * 1000 := Int.mul_le_mul t1 bv.2 bv.1 (by omega)
  have e1 : IntKind.i64.wrap (t * u) = t * u := IntWalk.i64_in _ (by omega)
  have e2 : IntKind.i64.wrap (t * v) = t * v := IntWalk.i64_in _ (by omega)
  have q0 := (flr_ok t0 (show 0 < s by omega) bu.1).2
  have q1 := (flr_ok t0 (show 0 < s by omega) bv.1).2
  obtain ⟨x, hx⟩ : ∃ x, rmd t s u = x := ⟨_, rfl⟩
  obtain ⟨y, hy⟩ : ∃ y, rmd t s v = y := ⟨_, rfl⟩
  rw [hx] at q0 ⊢
  rw [hy] at q1 ⊢
  unfold rmd at hx hy
  go_enter Try.func11, Try.ntmps11
  go_wp2_with fail
  go_quiet (fail)
  by_cases h1 : y < x
  · have g1 : Hid (cmp3 x y = -1) := by show _ = _; unfold cmp3; rw [if_pos h1]
    go_wp2_with fail
    go_ret
    exact ⟨ret_int g1.out.symm, _, rfl⟩
  · by_cases h2 : x < y
    · have g1 : Hid (cmp3 x y = 1) := by show _ = _; unfold cmp3; rw [if_neg h1, if_pos h2]
      go_wp2_with fail
      go_ret
      exact ⟨ret_int g1.out.symm, _, rfl⟩
    · have g1 : Hid (cmp3 x y = 0) := by show _ = _; unfold cmp3; rw [if_neg h1, if_neg h2]
      go_wp2_with fail
      go_ret
      exact ⟨ret_int g1.out.symm, _, rfl⟩
theorem CapW.drew {w : World} {g : Nat} {a2 a3 a6 : Addr} {t s : Int} {A : Option Addr} {n c : Nat} {ws : List Int} (h : CapW w g a2 a3 a6 t s A n c ws) (m : Nat) : CapW (w.drewN m) g a2 a3 a6 t s A n c ws :=
  h.kept ⟨rfl, rfl, rfl, Nat.le_refl _, fun _ _ _ => rfl⟩
theorem OwnN.drew {w : World} {base : Nat} {A : Option Addr} {n c : Nat} {zs : List Int} (h : OwnN w base A n c zs) (m : Nat) : OwnN (w.drewN m) base A n c zs := h.below ⟨rfl, rfl, rfl, Nat.le_refl _, fun _ _ => rfl⟩
theorem OwnI.drew {w : World} {base : Nat} {A : Option Addr} {n c : Nat} {zs : List Int} (h : OwnI w base A n c zs) (m : Nat) : OwnI (w.drewN m) base A n c zs := h.below ⟨rfl, rfl, rfl, Nat.le_refl _, fun _ _ => rfl⟩
theorem grown_drewN {w w' : World} {row : Option Nat} (h : w.grownBy w' row) (m : Nat) : w.grownBy (w'.drewN m) row := grown_trans h ⟨rfl, rfl, rfl, Nat.le_refl _, fun _ _ _ => rfl⟩
set_option maxRecDepth 100000 in
set_option maxHeartbeats 1000000 in
theorem insort_any (base g : Nat) (a2 a3 a6 : Addr) (t s : Int) (A : Option Addr) (n c c' : Nat) (ws os : List Int) (w : World) (h : CapW w g a2 a3 a6 t s A n c ws) (ho : OwnN w base (some ⟨g, 0, none⟩) n c' os)
    (t0 : 0 ≤ t) (t1 : t ≤ 1000) (s0 : 1 ≤ s) (s1 : s ≤ 1000) (hw : ∀ w ∈ ws, 0 ≤ w ∧ w ≤ 1000) (hos : os.Perm (iota 0 n)) (hn1 : 1 ≤ n) :
    Calls Try.prog 14 #[.slice (some ⟨g, 0, none⟩) n c', .int .i64 0, .int .i64 n, .func (.func 11) #[] #[.pointer (some a2), .pointer (some a3), .pointer (some a6)]] w
      fun e w' => e = .returned (.tuple #[]) ∧ ∃ xs, OwnN w' base (some ⟨g, 0, none⟩) n c' xs ∧ xs.Perm (iota 0 n) ∧ SortP (fR t s ws) xs n ∧ w.grownBy w' (some g) := by
  have hm := h.iw.short
  have HW := Lib.hid hw
  have HC := Lib.hid h
  clear hw h
  go_enter Try.func14, Try.ntmps14
  go_wp2_with fail
  go_loopw [8] (fun i wr => ∃ (k : Nat) (xs : List Int), k ≤ n ∧ 1 ≤ k ∧ i = .int .i64 k ∧ OwnN wr base (some ⟨g, 0, none⟩) n c' xs ∧ xs.Perm (iota 0 n) ∧ SortP (fR t s ws) xs k ∧ w.grownBy wr (some g)) (fun i _ => n - (intOf i).toNat)
  case atStart =>
    refine ⟨1, os, by omega, Nat.le_refl _, rfl, ho, hos, fun p q x y h1 h2 _ _ => by omega, grown_refl _ _⟩
  case round =>
    obtain ⟨k, xs, hk, hk1, rfl, ho2, hp, hs, hg⟩ := hrel
    have HO := Lib.hid ho2
    have HP := Lib.hid hp
    have HS := Lib.hid hs
    have HG := Lib.hid hg
    clear ho2 hp hs hg
    by_cases hlt : k < n
    · go_wp2_with fail
      obtain ⟨wo, rfl⟩ : ∃ wo : World, wo = wr := ⟨_, rfl⟩
      go_loopw [9] (fun i wr => ∃ (j : Nat) (xs : List Int), j ≤ k ∧ i = .int .i64 j ∧ OwnN wr base (some ⟨g, 0, none⟩) n c' xs ∧ xs.Perm (iota 0 n) ∧ InsP (fR t s ws) xs k j ∧ w.grownBy wr (some g)) (fun i _ => (intOf i).toNat)
      case atStart => exact ⟨k, xs, Nat.le_refl _, rfl, HO.out, HP.out, HS.out.ins, HG.out⟩
      case round =>
        obtain ⟨j, ys, hj, rfl, ho3, hp3, hs3, hg3⟩ := hrel
        have HO3 := Lib.hid ho3
        have HP3 := Lib.hid hp3
        have HS3 := Lib.hid hs3
        have HG3 := Lib.hid hg3
        clear ho3 hp3 hs3 hg3
        rcases Nat.eq_zero_or_pos j with h0 | h0
        · subst h0
          have HF := Lib.hid HS3.out.first
          go_wp2_with fail
          go_quiet (fail)
          go_wp2_with fail
          go_roundw
          case rel => exact ⟨k + 1, ys, by omega, by omega, by go_num, HO3.out.drew _, HP3.out, HF.out, grown_drewN HG3.out _⟩
          case measure => simp [intOf]; omega
        · obtain ⟨j, rfl⟩ : ∃ j', j = j' + 1 := ⟨j - 1, by omega⟩
          have hl := HO3.out.len
          obtain ⟨u, hu⟩ : ∃ x, Hid (ys[j + 1]? = some x) := ⟨_, List.getElem?_eq_getElem (by omega)⟩
          obtain ⟨v, hv⟩ : ∃ x, Hid (ys[j]? = some x) := ⟨_, List.getElem?_eq_getElem (by omega)⟩
          have bu := iota_mem (HP3.out.mem_iff.1 (mem_of_at hu.out))
          have bv := iota_mem (HP3.out.mem_iff.1 (mem_of_at hv.out))
          obtain ⟨u, rfl⟩ := Int.eq_ofNat_of_zero_le bu.1
          obtain ⟨v, rfl⟩ := Int.eq_ofNat_of_zero_le bv.1
          have cu := HO3.out.cell hu.out
          have cv := HO3.out.cell hv.out
          have fu := HO3.out.free (j + 1)
          have fv := HO3.out.free j
          have HC3 := Lib.hid (HC.out.kept HG3.out)
          have CP := Lib.hid (fun W0 (hh : CapW W0 g a2 a3 a6 t s A n c ws) => shareCmp_any g a2 a3 a6 t s A n c ws u v W0 hh (by omega) (by omega) t0 t1 s0 s1 HW.out)
          obtain ⟨r, hr⟩ : ∃ r, cmp3 (fR t s ws u) (fR t s ws v) = r := ⟨_, rfl⟩
          have br := cmp3_bd (fR t s ws u) (fR t s ws v)
          have RL := Lib.hid (cmp3_lt (x := fR t s ws u) (y := fR t s ws v))
          rw [hr] at CP br RL
          clear hr hl
          rw [Int.natCast_add, Int.natCast_one]
          by_cases hr0 : r < 0
          · have HD := Lib.hid (HS3.out.down (by omega) hu.out hv.out (RL.out.1 hr0))
            have HPD := Lib.hid ((swap_perm hu.out hv.out).trans HP3.out)
            go_wp2_with fail
            go_quiet ((exact quiet_more (CP.out _ (HC3.out.drew _))))
            go_wp2_with fail
            go_region
            all_goals (go_wp2_with fail)
            all_goals
              go_roundw
              case rel => exact ⟨j, _, by omega, by go_num, (((HO3.out.drew _).set (j + 1) (v : Int) (by omega) (by omega)).1.set j (u : Int) (by omega) (by omega)).1, HPD.out, HD.out, (grown_trans (grown_drewN HG3.out _) (grown_trans ((HO3.out.drew _).set (j + 1) (v : Int) (by omega) (by omega)).2 (((HO3.out.drew _).set (j + 1) (v : Int) (by omega) (by omega)).1.set j (u : Int) (by omega) (by omega)).2))⟩
              case measure => simp [intOf]
          · have HD := Lib.hid (HS3.out.stop (by omega) hu.out hv.out (fun hh => hr0 (RL.out.2 hh)))
            go_wp2_with fail
            go_quiet ((exact quiet_more (CP.out _ (HC3.out.drew _))))
            go_wp2_with fail
            go_roundw
            case rel => exact ⟨k + 1, ys, by omega, by omega, by go_num, HO3.out.drew _, HP3.out, HD.out, grown_drewN HG3.out _⟩
            case measure => simp [intOf]; omega
    · obtain rfl : k = n := by omega
      go_wp2_with fail
      go_end0
      exact ⟨rfl, xs, HO.out, HP.out, HS.out, HG.out⟩
/-- What a sort of the order leaves. -/
def Sorted3 (base g : Nat) (n c' : Nat) (f : Int → Int) (w : World) (e : Ending) (w' : World) : Prop :=
  e = .returned (.tuple #[]) ∧ ∃ xs, OwnN w' base (some ⟨g, 0, none⟩) n c' xs ∧ xs.Perm (iota 0 n) ∧ SortP f xs n ∧ w.grownBy w' (some g)
theorem stable_any (base g : Nat) (a2 a3 a6 : Addr) (t s : Int) (A : Option Addr) (n c c' : Nat) (ws os : List Int) (w : World) (h : CapW w g a2 a3 a6 t s A n c ws) (ho : OwnN w base (some ⟨g, 0, none⟩) n c' os)
    (t0 : 0 ≤ t) (t1 : t ≤ 1000) (s0 : 1 ≤ s) (s1 : s ≤ 1000) (hw : ∀ w ∈ ws, 0 ≤ w ∧ w ≤ 1000) (hos : os.Perm (iota 0 n)) (hn1 : 1 ≤ n) (hn2 : n ≤ 19) :
    Calls Try.prog 13 #[.slice (some ⟨g, 0, none⟩) n c', .int .i64 n, .func (.func 11) #[] #[.pointer (some a2), .pointer (some a3), .pointer (some a6)]] w (Sorted3 base g n c' (fR t s ws) w) := by
  have IS := Lib.hid (insort_any base g a2 a3 a6 t s A n c c' ws os w h ho t0 t1 s0 s1 hw hos hn1)
  clear hw hos h ho
  go_enter Try.func13, Try.ntmps13
  go_wp2_with fail
  go_loop [7, 8] (fun a b => a = .int .i64 0 ∧ b = .int .i64 20) (fun _ _ => 0)
  case atStart => exact ⟨rfl, rfl⟩
  case round =>
    obtain ⟨rfl, rfl⟩ := hrel
    go_wp2_with fail
    refine IS.out.mono ?_
    rintro e w1 ⟨rfl, xs, h1, h2, h3, h4⟩
    have H1 := Lib.hid h1
    have H2 := Lib.hid h2
    have H3 := Lib.hid h3
    have H4 := Lib.hid h4
    clear h1 h2 h3 h4
    go_wp2_with fail
    go_loop [6] (fun a => a = .int .i64 20) (fun _ => 0)
    case atStart => rfl
    case round =>
      subst hrel
      go_wp2_with fail
      go_end0
      exact ⟨rfl, xs, H1.out, H2.out, H3.out, H4.out⟩
theorem sortStable_any (base g : Nat) (a2 a3 a6 : Addr) (t s : Int) (A : Option Addr) (n c c' : Nat) (ws os : List Int) (w : World) (h : CapW w g a2 a3 a6 t s A n c ws) (ho : OwnN w base (some ⟨g, 0, none⟩) n c' os)
    (t0 : 0 ≤ t) (t1 : t ≤ 1000) (s0 : 1 ≤ s) (s1 : s ≤ 1000) (hw : ∀ w ∈ ws, 0 ≤ w ∧ w ≤ 1000) (hos : os.Perm (iota 0 n)) (hn1 : 1 ≤ n) (hn2 : n ≤ 19) :
    Calls Try.prog 10 #[.slice (some ⟨g, 0, none⟩) n c', .func (.func 11) #[] #[.pointer (some a2), .pointer (some a3), .pointer (some a6)]] w (Sorted3 base g n c' (fR t s ws) w) := by
  have IS := Lib.hid (stable_any base g a2 a3 a6 t s A n c c' ws os w h ho t0 t1 s0 s1 hw hos hn1 hn2)
  clear hw hos h ho
  go_enter Try.func10, Try.ntmps10
  go_wp2_with fail
  refine IS.out.mono ?_
  rintro e w1 ⟨rfl, xs, h1, h2, h3, h4⟩
  have H1 := Lib.hid h1
  have H2 := Lib.hid h2
  have H3 := Lib.hid h3
  have H4 := Lib.hid h4
  clear h1 h2 h3 h4
  go_wp2_with fail
  go_end0
  exact ⟨rfl, xs, H1.out, H2.out, H3.out, H4.out⟩
/-- The world while the parts are made: the boxed total, the boxed weights, the sum. -/
structure ShW (w wr : World) (t : Int) (A : Option Addr) (n c : Nat) (s : Int) : Prop where
  k2 : Cs wr w.heap.size [.int .i64 t]
  k3 : Cs wr (w.heap.size + 1) [.slice A n c]
  k6 : Cs wr (w.heap.size + 2) [.int .i64 s]
  bel : Below w.heap.size w wr
theorem ShW.kept {w wr w' : World} {t : Int} {A : Option Addr} {n c : Nat} {s : Int} {row : Option Nat} (h : ShW w wr t A n c s) (hg : wr.grownBy w' row) (hr : ∀ g, row = some g → w.heap.size + 3 ≤ g) : ShW w w' t A n c s :=
  ⟨h.k2.kept hg (fun e => by have := hr _ e.symm; omega), h.k3.kept hg (fun e => by have := hr _ e.symm; omega), h.k6.kept hg (fun e => by have := hr _ e.symm; omega), h.bel.grown hg h.bel.size (fun x hx => by have := hr _ hx; omega)⟩
theorem ShW.drew {w wr : World} {t : Int} {A : Option Addr} {n c : Nat} {s : Int} (h : ShW w wr t A n c s) (m : Nat) : ShW w (wr.drewN m) t A n c s := h.kept (row := none) ⟨rfl, rfl, rfl, Nat.le_refl _, fun _ _ _ => rfl⟩ (by simp)
theorem ShW.alloc {w wr : World} {t : Int} {A : Option Addr} {n c : Nat} {s : Int} (h : ShW w wr t A n c s) (o : Obj) : ShW w (wr.alloc o) t A n c s :=
  ⟨h.k2.alloc o, h.k3.alloc o, h.k6.alloc o, h.bel.alloc h.bel.size o⟩
theorem ShW.add {w wr : World} {t : Int} {A : Option Addr} {n c : Nat} {s : Int} (h : ShW w wr t A n c s) (s' : Int) : ShW w (wr.setCell ⟨w.heap.size + 2, 0, none⟩ (.int .i64 s')) t A n c s' :=
  ⟨h.k2.far (by omega) _ _, h.k3.far (by omega) _ _, by simpa using h.k6.set 0 (.int .i64 s') (by simp), h.bel.setCell (by simp) _⟩
theorem sum_bd {b : Int} : ∀ {l : List Int}, (∀ z ∈ l, 0 ≤ z ∧ z ≤ b) → 0 ≤ l.sum ∧ l.sum ≤ b * l.length := by
  intro l
  induction l with
  | nil => intro _; simp
  | cons z l ih =>
    intro h
    have h1 := h z (List.mem_cons_self ..)
    have h2 := ih fun y hy => h y (List.mem_cons_of_mem _ hy)
    simp only [List.sum_cons, List.length_cons, Int.natCast_add, Int.natCast_one, Int.mul_add, Int.mul_one]
    omega
theorem sum_snoc (l : List Int) (z : Int) : (l ++ [z]).sum = l.sum + z := by simp
theorem flr_le {t s z : Int} (t0 : 0 ≤ t) (t1 : t ≤ 1000) (hs : 1 ≤ s) (z0 : 0 ≤ z) (z1 : z ≤ 100) : 0 ≤ flr t s z ∧ flr t s z ≤ 100000 := by
  obtain ⟨q1, q2, q3, q4⟩ := flr_ok t0 (show 0 < s by omega) z0
  have m1 : t * z ≤ 1000 * 100 := Int.mul_le_mul t1 z1 z0 (by omega)
  have m2 : flr t s z * 1 ≤ flr t s z * s := Int.mul_le_mul_of_nonneg_left hs q4
  omega
theorem flrs_bd {t s : Int} {ws : List Int} (t0 : 0 ≤ t) (t1 : t ≤ 1000) (hs : 1 ≤ s) (hw : ∀ w ∈ ws, 0 ≤ w ∧ w ≤ 100) (k : Nat) : 0 ≤ ((ws.map (flr t s)).take k).sum ∧ ((ws.map (flr t s)).take k).sum ≤ 100000 * k := by
  have h := sum_bd (b := 100000) (l := (ws.map (flr t s)).take k) (fun y hy => by
    obtain ⟨z, hz, rfl⟩ := List.mem_map.1 (List.mem_of_mem_take hy)
    exact flr_le t0 t1 hs (hw z hz).1 (hw z hz).2)
  have : ((ws.map (flr t s)).take k).length ≤ k := by simp; omega
  omega
theorem iota_snoc0 (k : Nat) : iota 0 (k + 1) = iota 0 k ++ [(k : Int)] := by simp [iota, List.range_succ]
set_option maxRecDepth 100000 in
set_option maxHeartbeats 1000000 in
theorem shareOut_any (t : Int) (A : Option Addr) (n c : Nat) (ws : List Int) (w : World) (h : Ints .i64 w A n c ws) (t0 : 0 ≤ t) (t1 : t ≤ 1000) (n1 : 1 ≤ n) (n2 : n ≤ 7) (hw : ∀ w ∈ ws, 0 ≤ w ∧ w ≤ 100) (hs : 1 ≤ ws.sum) :
    Calls Try.prog 6 #[.int .i64 t, .slice A n c] w fun e w' => ∃ B d out, e = .returned (.tuple #[.slice B n d, .bool true]) ∧ ShareP t ws.sum ws out ∧ OwnI w' w.heap.size B n d out ∧ Below w.heap.size w w' := by
  have hm := h.short
  have hl := Lib.hid h.1
  have HW := Lib.hid hw
  have SB := sum_bd hw
  rw [hl.out] at SB
  have PB : ∀ k : Nat, k ≤ n → 0 ≤ (ws.take k).sum ∧ (ws.take k).sum ≤ 100 * k := fun k hk => by
    have := sum_bd (l := ws.take k) fun z hz => hw z (List.mem_of_mem_take hz)
    rwa [List.length_take, hl.out, Nat.min_eq_left hk] at this
  have PBH := Lib.hid PB
  clear hw PB
  obtain ⟨s, hs2⟩ : ∃ s, ws.sum = s := ⟨_, rfl⟩
  rw [hs2] at SB hs ⊢
  have HE := Lib.hid hs2
  clear hs2
  have W0 : ShW w (((w.alloc (.cells #[.int .i64 t] 2)).alloc (.cells #[.slice A n c] 24)).alloc (.cells #[.int .i64 0] 2)) t A n c 0 := by
    have h1 := Cs.new w [.int .i64 t] 2
    have h2 := Cs.new (w.alloc (.cells #[.int .i64 t] 2)) [.slice A n c] 24
    have h3 := Cs.new ((w.alloc (.cells #[.int .i64 t] 2)).alloc (.cells #[.slice A n c] 24)) [.int .i64 0] 2
    simp at h2 h3
    exact ⟨(h1.alloc _).alloc _, h2.alloc _, h3, ((bel_alloc _ _).alloc (by simp) _).alloc (by simp; omega) _⟩
  have WH := Lib.hid W0
  clear W0
  go_enter Try.func6, Try.ntmps6
  go_wp2_with fail
  refine (within_val (show inR t 0 1000000000 = true from inR_true.2 (by omega)) _).mono ?_
  rintro e w1 ⟨rfl, rfl⟩
  go_wp2_with fail
  refine (within_val (show inR (n : Int) 1 20 = true from inR_true.2 (by omega)) _).mono ?_
  rintro e w1 ⟨rfl, rfl⟩
  go_wp2_with fail
  go_loopw [27] (fun i wr => ∃ k : Nat, k ≤ n ∧ i = .int .i64 k ∧ ShW w wr t A n c (ws.take k).sum) (fun i _ => n - (intOf i).toNat)
  case atStart => exact ⟨0, Nat.zero_le _, rfl, WH.out⟩
  case round =>
    obtain ⟨k, hk, rfl, hsw⟩ := hrel
    have HS := Lib.hid hsw
    obtain ⟨S, hS⟩ : ∃ S, (ws.take k).sum = S := ⟨_, rfl⟩
    have bS := PBH.out k hk
    rw [hS] at hsw bS
    have c6 := hsw.k6.cell 0 rfl
    have f6 := hsw.k6.free 0 rfl
    have c2 := hsw.k2.cell 0 rfl
    have c3 := hsw.k3.cell 0 rfl
    have lt6 := hsw.k6.1
    have bel := hsw.bel
    by_cases hlt : k < n
    · obtain ⟨b, off, z, rfl, hb, hcell, hz1, hz2, hz⟩ := (h.below bel).at hlt
      have bz := HW.out z (mem_of_at hz.out)
      have HN : Hid (ShW w (wr.setCell ⟨w.heap.size + 2, 0, none⟩ (.int .i64 (S + z))) t (some ⟨b, off, none⟩) n c (ws.take (k + 1)).sum) := by
        show ShW _ _ _ _ _ _ _
        rw [take_snoc' hz.out, sum_snoc, hS]
        exact hsw.add _
      clear hsw hS bel
      go_wp2_with fail
      refine (within_val (show inR z 0 1000000000 = true from inR_true.2 (by omega)) _).mono ?_
      rintro e w1 ⟨rfl, rfl⟩
      go_wp2_with fail
      go_roundw
      case rel => exact ⟨k + 1, by omega, by go_num, HN.out⟩
      case measure => simp [intOf]; omega
    · obtain rfl : n = k := by omega
      obtain rfl : s = S := by rw [← hS, List.take_of_length_le (by rw [hl.out]; omega)]; exact HE.out.symm
      clear hS HS
      have HSW := Lib.hid hsw
      clear hsw
      go_wp2_with fail
      refine (within_val (show inR s 1 1000000000 = true from inR_true.2 (by omega)) _).mono ?_
      rintro e w1 ⟨rfl, rfl⟩
      go_upto_region 14 with (fail)
      go_cut [9, 10, 11] (fun a b l wx => ∃ A1 c1 A2 c2, a = .slice A1 0 c1 ∧ b = .slice A2 0 c2 ∧ l = .int .i64 t ∧ OwnI wx (w.heap.size + 3) A1 0 c1 [] ∧ OwnN wx (w.heap.size + 3) A2 0 c2 [] ∧ ShW w wx t A n c s)
      case first =>
        have ca : ∀ o, (wr.alloc o).cell? ⟨w.heap.size, 0, none⟩ = some (.int .i64 t) := fun o => (HSW.out.alloc o).k2.cell 0 rfl
        have ca2 : ∀ o o', ((wr.alloc o).alloc o').cell? ⟨w.heap.size, 0, none⟩ = some (.int .i64 t) := fun o o' => ((HSW.out.alloc o).alloc o').k2.cell 0 rfl
        go_region
        all_goals (clear ca ca2)
        all_goals (go_wp2_with fail)
        all_goals have OA := ((ownI_lit wr).below (bel_alloc _ (.cells #[] 3))).mono (b2 := w.heap.size + 3) (by omega)
        all_goals have OB := (ownN_lit (wr.alloc (.cells #[] 2))).mono (b2 := w.heap.size + 3) (by simp; omega)
        all_goals have OC := ((ownN_lit wr).below (bel_alloc _ (.cells #[] 2))).mono (b2 := w.heap.size + 3) (by omega)
        all_goals have OD := (ownI_lit (wr.alloc (.cells #[] 3))).mono (b2 := w.heap.size + 3) (by simp; omega)
        all_goals have e1 : ∀ o, (wr.alloc o).heap.size = wr.heap.size + 1 := fun o => by simp
        all_goals rw [e1] at OB OD
        all_goals have SA := ((HSW.out.alloc (.cells #[] 2)).alloc (.cells #[] 3)).drew 1
        all_goals have SB' := ((HSW.out.alloc (.cells #[] 3)).alloc (.cells #[] 2)).drew 1
        all_goals go_meet
        all_goals first | exact ⟨_, _, _, _, rfl, rfl, rfl, OA.drew 1, OB.drew 1, SA⟩ | exact ⟨_, _, _, _, rfl, rfl, rfl, OD.drew 1, OC.drew 1, SB'⟩
      case rest =>
        obtain ⟨A1, d1, A2, d2, rfl, rfl, rfl, h1, h2, h3⟩ := hcut
        have c3' := h3.k3.cell 0 rfl
        have H1 := Lib.hid h1
        have H2 := Lib.hid h2
        have H3 := Lib.hid h3
        clear h1 h2 h3
        go_wp2_with fail
        go_loopw [9, 10, 11, 46] (fun a b l i wr => ∃ (k : Nat) (A1 A2 : Option Addr) (c1 c2 : Nat), k ≤ n ∧ i = .int .i64 k ∧ a = .slice A1 k c1 ∧ b = .slice A2 k c2 ∧ l = .int .i64 (t - ((ws.map (flr t s)).take k).sum) ∧
          OwnI wr (w.heap.size + 3) A1 k c1 ((ws.map (flr t s)).take k) ∧ OwnN wr (w.heap.size + 3) A2 k c2 (iota 0 k) ∧ ShW w wr t A n c s) (fun _ _ _ i _ => n - (intOf i).toNat)
        case atStart => exact ⟨0, A1, A2, d1, d2, Nat.zero_le _, rfl, rfl, rfl, by simp, H1.out, H2.out, H3.out⟩
        case round =>
          obtain ⟨k, B1, B2, d1, d2, hk2, rfl, rfl, rfl, rfl, h1, h2, h3⟩ := hrel
          clear c3' H1 H2 H3 c6 f6 c2 lt6 bel
          have H1 := Lib.hid h1
          have H2 := Lib.hid h2
          have H3 := Lib.hid h3
          have c2 := h3.k2.cell 0 rfl
          have c6 := h3.k6.cell 0 rfl
          have lt6 := h3.k6.1
          obtain ⟨P, hP⟩ : ∃ P, ((ws.map (flr t s)).take k).sum = P := ⟨_, rfl⟩
          have HP := Lib.hid hP
          rw [hP]
          have bel := h3.bel
          clear h1 h2 h3 hP
          by_cases hlt : k < n
          · obtain ⟨b, off, z, rfl, hb, hcell, hz1, hz2, hz⟩ := (h.below bel).at hlt
            have bz := HW.out z (mem_of_at hz.out)
            obtain ⟨fz, hfz⟩ : ∃ f, flr t s z = f := ⟨_, rfl⟩
            have hL : (ws.map (flr t s))[k]? = some fz := by simp [hz.out, hfz]
            have m0 : 0 ≤ t * z := Int.mul_nonneg t0 bz.1
            have m1 : t * z ≤ 1000 * 100 := Int.mul_le_mul t1 bz.2 bz.1 (by omega)
            have e1 : IntKind.i64.wrap (t * z) = t * z := IntWalk.i64_in _ (by omega)
            have q0 := flr_le t0 t1 hs bz.1 bz.2
            have bP := flrs_bd t0 t1 hs HW.out k
            have HPN : Hid ((t - P) - fz = t - ((ws.map (flr t s)).take (k + 1)).sum) := by show _ = _; rw [take_snoc' hL, sum_snoc, HP.out]; omega
            rw [HP.out] at bP
            have HT := Lib.hid (take_snoc' hL)
            have HIS := Lib.hid (iota_snoc0 k)
            rw [hfz] at q0
            unfold flr at hfz
            have k0 : -9223372036854775808 ≤ (k : Int) := by omega
            have k1 : (k : Int) ≤ 9223372036854775807 := by omega
            have kk : k ≤ 1099511627776 := by omega
            have z0 : -9223372036854775808 ≤ fz := by omega
            have z1 : fz ≤ 9223372036854775807 := by omega
            clear hL
            have c3 := hcell
            go_wp2_with (first
              | (at_builtin; refine app_int_at wr rfl _ _ rfl (w.heap.size + 3) B1 k d1 _ rfl H1.out fz z0 z1 rfl kk (by omega) ?_; intro B3 d3 w6 p1 p2 p3; have H16 := Lib.hid p1; have H26 := Lib.hid (H2.out.kept p2 (own_ne H2.out.1 H1.out.1 (by decide))); have H36 := Lib.hid (H3.out.kept p2 (fun g hg => (H1.out.block g hg).1)); have lt6' := H36.out.k6.1; clear p1 p2 p3)
              | (at_builtin; refine app_num_at w6 rfl _ _ rfl (w.heap.size + 3) B2 k d2 _ rfl H26.out (k : Int) k0 k1 rfl kk (by omega) ?_; intro B4 d4 w8 p1 p2 p3; have H28 := Lib.hid p1; have H18 := Lib.hid (H16.out.kept p2 (own_ne H16.out.1 H26.out.1 (by decide))); have H38 := Lib.hid (H36.out.kept p2 (fun g hg => (H26.out.block g hg).1)); have c28 := H38.out.k2.cell 0 rfl; have c68 := H38.out.k6.cell 0 rfl; clear p1 p2 p3))
            go_roundw
            case rel => exact ⟨k + 1, B3, B4, d3, d4, by omega, by go_num, rfl, rfl, by rw [← HPN.out], by rw [HT.out]; exact H18.out, by rw [HIS.out]; exact H28.out, H38.out⟩
            case measure => simp [intOf]; omega
          · obtain rfl : n = k := by omega
            have hlm : (ws.map (flr t s)).length = n := by simp [hl.out]
            have LO := left_ok t0 (show 0 < s by omega) (fun w hw => (HW.out w hw).1) HE.out
            rw [List.take_of_length_le (by omega)] at HP H1
            rw [HP.out, hl.out] at LO
            obtain ⟨l, hl2⟩ := Int.eq_ofNat_of_zero_le LO.1
            rw [hl2] at LO ⊢
            have HL2 : Hid (t - (ws.map (flr t s)).sum = (l : Int)) := by show _ = _; rw [HP.out]; exact hl2
            clear hl2 hlm
            obtain ⟨g, rfl, hg1, hg2⟩ := H2.out.form (by omega)
            obtain ⟨go, rfl, hgo1, hgo2⟩ := H1.out.form (by omega)
            have CW : CapW wr g ⟨w.heap.size, 0, none⟩ ⟨w.heap.size + 1, 0, none⟩ ⟨w.heap.size + 2, 0, none⟩ t s A n c ws :=
              ⟨c2, H3.out.k3.cell 0 rfl, c6, h.below bel, by show w.heap.size ≠ g; omega, by show w.heap.size + 1 ≠ g; omega, by show w.heap.size + 2 ≠ g; omega, fun a ha => by
                obtain ⟨b, off, hA, hbk, _⟩ := h.2.2.2.2 (by omega)
                rw [ha] at hA
                injection hA with hA
                subst hA
                show b ≠ g
                omega⟩
            have SS := Lib.hid (sortStable_any (w.heap.size + 3) g ⟨w.heap.size, 0, none⟩ ⟨w.heap.size + 1, 0, none⟩ ⟨w.heap.size + 2, 0, none⟩ t s A n c d2 ws (iota 0 n) wr CW H2.out t0 t1 hs (by omega) (fun w hw => by have := HW.out w hw; omega) (List.Perm.refl _) n1 (by omega))
            have hmf : ∀ (fn : Fn) (first cap : Array Value) (w : World), (Instr.makeFunc fn first cap).run Try.prog w = .ok (.func fn first cap) w := fun _ _ _ _ => rfl
            have ne : go ≠ g := by
              rcases own_ne H1.out.1 H2.out.1 (by decide) with e | e
              · simp [Value.ownBlock] at e
              · exact fun e2 => e (by simp [Value.ownBlock, e2])
            have hcd : n ≤ d2 := H2.out.ints.2.1
            have hcm : d2 ≤ 9223372036854775807 := by have := H2.out.ints.2.2.1; unfold maxLen at this; omega
            clear CW c2 c6 lt6 HSW WH c3
            go_wp2_with fail
            refine SS.out.mono ?_
            rintro e w1 ⟨rfl, os, o1, o2, o3, o4⟩
            have O1 := Lib.hid o1
            have O2 := Lib.hid o2
            have O3 := Lib.hid o3
            have D1 := Lib.hid (H1.out.kept o4 (by simp [Value.ownBlock, ne]))
            have bel1 : Below w.heap.size w w1 := bel.grown o4 bel.size (fun x hx => by injection hx with hx; omega)
            clear o1 o2 o3 o4 hmf SS
            go_wp2_with fail
            go_loopw [78] (fun i wr => ∃ (k : Nat) (out : List Int), k ≤ l ∧ i = .int .i64 k ∧ BumpP (ws.map (flr t s)) os k out ∧ OwnI wr (w.heap.size + 3) (some ⟨go, 0, none⟩) n d1 out ∧ OwnN wr (w.heap.size + 3) (some ⟨g, 0, none⟩) n d2 os ∧ Below w.heap.size w wr) (fun i _ => l - (intOf i).toNat)
            case atStart => exact ⟨0, _, by omega, rfl, BumpP.start _ _, D1.out, O1.out, bel1⟩
            case round =>
              obtain ⟨k, out, hk3, rfl, hb, h1, h2, hbel⟩ := hrel
              have HB := Lib.hid hb
              have P1 := Lib.hid h1
              have P2 := Lib.hid h2
              have lo := Lib.hid h1.len
              have lc := Lib.hid h2.len
              have BE := Lib.hid hbel
              clear hb h1 h2 hbel
              by_cases hlt3 : k < l
              · obtain ⟨zi, hzi⟩ : ∃ z, os[k]? = some z := ⟨_, List.getElem?_eq_getElem (by rw [lc.out]; omega)⟩
                have bz := iota_mem (O2.out.mem_iff.1 (mem_of_at hzi))
                obtain ⟨z, rfl⟩ := Int.eq_ofNat_of_zero_le bz.1
                obtain ⟨x, hx⟩ : ∃ x, ws[z]? = some x := ⟨_, List.getElem?_eq_getElem (by rw [hl.out]; omega)⟩
                have bx := HW.out x (mem_of_at hx)
                have fx := flr_le t0 t1 hs bx.1 bx.2
                obtain ⟨y, hy⟩ : ∃ y, out[z]? = some y := ⟨_, List.getElem?_eq_getElem (by rw [lo.out]; omega)⟩
                have by_ : 0 ≤ y ∧ y ≤ 100001 := by
                  have hya := HB.out.at_ z (flr t s x) (by simp [hx])
                  rw [hy] at hya
                  simp only [Option.some.injEq] at hya
                  split at hya <;> omega
                have nd : os.Nodup := O2.out.symm.nodup (by
                  unfold iota List.Nodup
                  rw [List.pairwise_map]
                  exact (List.nodup_range (n := n)).imp (fun h e => h (by omega)))
                have HBN := Lib.hid (HB.out.next nd hzi hy)
                have ci := P2.out.cell hzi
                have cy := P1.out.cell hy
                have fy := P1.out.free z
                have hg1' : w.heap.size ≤ go := by omega
                clear hzi hx hy nd
                go_wp2_with fail
                go_roundw
                case rel => exact ⟨k + 1, _, by omega, by go_num, HBN.out, (P1.out.set z (y + 1) (by omega) (by omega)).1, P2.out.kept (P1.out.set z (y + 1) (by omega) (by omega)).2 (by simp [Value.ownBlock]; omega), BE.out.setCell hg1' _⟩
                case measure => simp [intOf]; omega
              · obtain rfl : l = k := by omega
                go_wp2_with fail
                go_ret2
                exact ⟨_, _, out, rfl, share_ok t0 (by omega) (fun w hw => (HW.out w hw).1) HE.out HL2.out (by rw [hl.out]; exact O2.out) (by rw [hl.out]; exact O3.out) HB.out, P1.out.mono (by omega), BE.out⟩
end Go.Proofs.Ytmnmipekpkcbjaa
