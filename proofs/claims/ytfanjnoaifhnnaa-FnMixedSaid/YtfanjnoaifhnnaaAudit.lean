/- Contracts of AuditOrder and of the reference's shuffle; the walk of its law. -/
import Derived.Test.YtfanjnoaifhnnaaFrac
import Derived.Test.YtfanjnoaifhnnaaMark
namespace Go.Proofs.Ytfanjnoaifhnnaa
set_option linter.unusedVariables false
open Go.RowKit

theorem iota_snoc (k : Int) (n : Nat) : iota k (n + 1) = iota k n ++ [k + n] := by simp [iota, List.range_succ]
/-- A list with two of its elements exchanged. -/
def swapL (xs : List Int) (i j : Nat) : List Int := (xs.set i (xs.getD j 0)).set j (xs.getD i 0)
theorem swapL_length (xs : List Int) (i j : Nat) : (swapL xs i j).length = xs.length := by simp [swapL]
theorem swapL_at {xs : List Int} {i j : Nat} {a b : Int} (hi : xs[i]? = some a) (hj : xs[j]? = some b) : swapL xs i j = (xs.set i b).set j a := by
  simp [swapL, List.getD_eq_getElem?_getD, hi, hj]
theorem swapL_at' {xs : List Int} {i j : Nat} {a b : Int} (hi : xs[i]? = some a) (hj : xs[j]? = some b) (hne : i ≠ j) : swapL xs i j = (xs.set j a).set i b := by
  rw [swapL_at hi hj, List.set_comm _ _ hne]
theorem set_same {xs : List Int} {i : Nat} {a : Int} (hi : xs[i]? = some a) : xs.set i a = xs := by
  apply List.ext_getElem?
  intro m
  rw [List.getElem?_set]
  split
  · rename_i h; subst h
    have := (List.getElem?_eq_some_iff.1 hi).1
    rw [if_pos this, hi]
  · rfl
theorem swapL_self {xs : List Int} {i : Nat} {a : Int} (hi : xs[i]? = some a) : swapL xs i i = xs := by
  rw [swapL_at hi hi, set_same hi, set_same hi]
theorem swapL_mem {xs : List Int} {i j : Nat} {x : Int} (hi : i < xs.length) (hj : j < xs.length) (h : x ∈ swapL xs i j) : x ∈ xs := by
  have ei := List.getElem?_eq_getElem hi
  have ej := List.getElem?_eq_getElem hj
  rw [swapL_at ei ej] at h
  rcases List.mem_or_eq_of_mem_set h with h | rfl
  · rcases List.mem_or_eq_of_mem_set h with h | rfl
    · exact h
    · exact List.getElem_mem hj
  · exact List.getElem_mem hi

/-- The next number of the sequence; the order that comes of exchanging from place i down to 1. -/
def nextS (s : Int) : Int := (48271 * s + 11) % 2147483647
theorem nextS_bd (s : Int) : 0 ≤ nextS s ∧ nextS s < 2147483647 := ⟨Int.emod_nonneg _ (by decide), Int.emod_lt_of_pos _ (by decide)⟩
def shuf : Nat → Int → List Int → List Int
  | 0, _, xs => xs
  | i + 1, s, xs => shuf i (nextS s) (swapL xs (i + 1) (nextS s % ((i : Int) + 2)).toNat)
def auditB (key n : Int) : Bool := inR key 0 2147483646 && inR n 0 30
def auditL (key n : Int) : List Int := shuf (n - 1).toNat key (iota 0 n.toNat)
def auditV (key n : Int) : List Int := if auditB key n then auditL key n else []
theorem audit_no {key n : Int} (h : auditB key n = false) : auditV key n = [] := by simp [auditV, h]
theorem audit_yes {key n : Int} (h : auditB key n = true) : auditV key n = auditL key n := by simp [auditV, h]
theorem audit_out1 {key n : Int} (h : inR key 0 2147483646 = false) : auditB key n = false := by simp [auditB, h]
theorem audit_out2 {key n : Int} (h : inR n 0 30 = false) : auditB key n = false := by simp [auditB, h]
theorem audit_in {key n : Int} (h : inR key 0 2147483646 = true) (h' : inR n 0 30 = true) : auditB key n = true := by simp [auditB, h, h']
theorem shuf_length : ∀ (i : Nat) (s : Int) (xs : List Int), (shuf i s xs).length = xs.length := by
  intro i
  induction i with
  | zero => exact fun _ _ => rfl
  | succ i ih => intro s xs; rw [shuf, ih, swapL_length]
theorem auditL_length {key n : Int} : (auditL key n).length = n.toNat := by rw [auditL, shuf_length, iota_length]
theorem auditV_len {key n : Int} : (auditV key n).length ≤ 30 := by
  cases h : auditB key n
  · rw [audit_no h]; simp
  · rw [audit_yes h, auditL_length]
    simp only [auditB, Bool.and_eq_true] at h
    have := inR_true.1 h.2
    omega
theorem shuf_step {i : Nat} {s : Int} {xs : List Int} (h : 0 < i) : shuf i s xs = shuf (i - 1) (nextS s) (swapL xs i (nextS s % ((i : Int) + 1)).toNat) := by
  obtain ⟨j, rfl⟩ : ∃ j, i = j + 1 := ⟨i - 1, by omega⟩
  rw [shuf]
  rw [show ((j + 1 : Nat) : Int) + 1 = (j : Int) + 2 by omega]; rfl
theorem toNat_zero_or {i : Int} (h : -1 ≤ i) (h' : ¬ 1 ≤ i) : i.toNat = 0 := by omega
/-- The state of the exchanges: what is still to do leads to the order. -/
def ShufOk (key n s i : Int) (xs : List Int) : Prop := xs.length = n.toNat ∧ shuf i.toNat s xs = auditL key n
theorem ShufOk.start {key n : Int} : ShufOk key n key (n - 1) (iota 0 n.toNat) := ⟨iota_length _ _, rfl⟩
theorem ShufOk.done {key n s i : Int} {xs : List Int} (h : ShufOk key n s i xs) (hi : ¬ 1 ≤ i) : xs = auditL key n := by
  have := h.2
  rw [show i.toNat = 0 by omega] at this
  exact this
theorem ShufOk.next {key n s i : Int} {xs : List Int} (h : ShufOk key n s i xs) (hi : 1 ≤ i) : ShufOk key n (nextS s) (i - 1) (swapL xs i.toNat (nextS s % (i + 1)).toNat) := by
  refine ⟨by rw [swapL_length]; exact h.1, ?_⟩
  have := h.2
  rw [shuf_step (by omega), show ((i.toNat : Nat) : Int) = i by omega] at this
  rw [show (i - 1).toNat = i.toNat - 1 by omega]
  exact this
/-- What a maker of a slice of m numbers leaves. -/
def MadeN (m : Nat) (zs : List Int) (w : World) (e : Ending) (w' : World) : Prop :=
  ∃ A c, e = .returned (.slice A m c) ∧ OwnI w' w.heap.size A m c zs ∧ Below w.heap.size w w'
theorem l04First_any (m : Nat) (w : World) (h1 : m ≤ 1048576) :
    Calls Try.prog 101 #[.int .i64 (m : Int)] w (MadeN m (iota 0 m) w) := by
  go_enter Try.func101, Try.ntmps101
  go_wp2_with fail
  go_loopw [3, 4] (fun o i wr => ∃ (k : Nat) (A : Option Addr) (c : Nat), k ≤ m ∧ i = .int .i64 k ∧ o = .slice A k c ∧ OwnI wr w.heap.size A k c (iota 0 k) ∧ Below w.heap.size w wr) (fun _ i _ => m - (intOf i).toNat)
  case atStart => exact ⟨0, _, _, by omega, rfl, rfl, by simpa [iota] using ownI_lit w, bel_alloc _ _⟩
  case round =>
    obtain ⟨k, A, c, hk, rfl, rfl, hown, hbel⟩ := hrel
    have hz1 : -9223372036854775808 ≤ (k : Int) := by omega
    have hz2 : (k : Int) ≤ 9223372036854775807 := by omega
    have hk2 : k ≤ 1099511627776 := by omega
    have hsz := hbel.size
    have Hown := Lib.hid hown
    clear hown
    by_cases hlt : k < m
    · go_wp2_with (at_builtin; refine app_int wr rfl _ _ rfl w.heap.size A k c _ rfl Hown.out (k : Int) hz1 hz2 rfl hk2 hsz ?_; intro A' c' w1 hown1 hg1)
      have hb1 := bel_app hbel Hown.out.1 hg1 hsz
      have ho1 : OwnI w1 w.heap.size A' (k + 1) c' (iota 0 (k + 1)) := by rw [iota_snoc]; simpa using hown1
      clear hown1 hg1
      go_roundw
      case rel => exact ⟨k + 1, A', c', by omega, by go_num, rfl, ho1, hb1⟩
      case measure => simp [intOf]; omega
    · go_wp2_with fail
      go_ret
      obtain rfl : m = k := by omega
      exact ⟨A, c, rfl, Hown.out, hbel⟩
theorem l09Shuffle_any (key : Int) (m : Nat) (w : World) (k0 : 0 ≤ key) (k1 : key ≤ 2147483646) (h1 : m ≤ 1048576) :
    Calls Try.prog 70 #[.int .i64 key, .int .i64 (m : Int)] w (MadeN m (auditL key m) w) := by
  go_enter Try.func70, Try.ntmps70
  go_wp2_with fail
  refine (l04First_any m _ h1).mono ?_
  rintro e w1 ⟨A, c, rfl, ho, hb⟩
  go_wp2_with fail
  go_loopw [0, 6] (fun s i wr => ∃ (ss ii : Int) (xs : List Int), 0 ≤ ss ∧ ss ≤ 2147483646 ∧ -1 ≤ ii ∧ ii < m ∧ s = .int .i64 ss ∧ i = .int .i64 ii ∧ ShufOk key m ss ii xs ∧ OwnI wr w.heap.size A m c xs ∧ Below w.heap.size w wr) (fun _ i _ => (intOf i + 1).toNat)
  case atStart => exact ⟨key, (m : Int) - 1, iota 0 m, k0, k1, by omega, by omega, rfl, rfl, ShufOk.start, ho, hb⟩
  case round =>
    obtain ⟨ss, ii, xs, s0, s1, i0, i1, rfl, rfl, hsh, hown, hbel⟩ := hrel
    by_cases hii : 1 ≤ ii
    · skip
      have HN := Lib.hid (hsh.next hii)
      obtain ⟨i, rfl⟩ := Int.eq_ofNat_of_zero_le (show 0 ≤ ii by omega)
      have nb := nextS_bd ss
      obtain ⟨s2, hs2⟩ : ∃ s2, nextS ss = s2 := ⟨_, rfl⟩
      have r0 : 0 ≤ s2 % ((i : Int) + 1) := Int.emod_nonneg _ (by omega)
      have r1 : s2 % ((i : Int) + 1) < (i : Int) + 1 := Int.emod_lt_of_pos _ (by omega)
      obtain ⟨a, ha⟩ := Int.eq_ofNat_of_zero_le r0
      have HN2 : Hid (ShufOk key m s2 ((i : Int) - 1) (swapL xs i a)) := by
        have := HN.out
        rw [hs2, ha] at this
        exact this
      rw [hs2] at nb
      rw [ha] at r1
      have E1 : (48271 * ss + 11) % 2147483647 = s2 := hs2
      clear r0 HN hs2
      have hlen := hsh.1
      obtain ⟨g, rfl, hg1, hg2⟩ := hown.form (by omega)
      have hp' := List.getElem?_eq_getElem (l := xs) (i := i) (by simp at hlen; omega)
      have hq' := List.getElem?_eq_getElem (l := xs) (i := a) (by simp at hlen; omega)
      obtain ⟨p, hp⟩ : ∃ p, Hid (xs[i]? = some p) := ⟨_, hp'⟩
      obtain ⟨q, hq⟩ : ∃ q, Hid (xs[a]? = some q) := ⟨_, hq'⟩
      clear hp' hq' hlen
      have cp := hown.cell hp.out
      have cq := hown.cell hq.out
      have fp := hown.free i
      have fq := hown.free a
      have bp := bounds_i64 (hown.2 p (mem_of_at hp.out))
      have bq := bounds_i64 (hown.2 q (mem_of_at hq.out))
      have HS := Lib.hid hown
      have HB := Lib.hid hbel
      clear hown hbel hsh
      by_cases hai : a = i
      · subst hai
        obtain rfl : p = q := by have := hq.out; rw [hp.out] at this; simpa using this
        have HW := Lib.hid (swapL_at hp.out hp.out)
        go_wp2_with fail
        go_roundw
        case rel => exact ⟨s2, (a : Int) - 1, _, by omega, by omega, by omega, by omega, by rw [E1], rfl, HN2.out, by rw [HW.out]; exact ((HS.out.set a p bp.1 bp.2).1.set a p bp.1 bp.2).1, (HB.out.setCell hg1 _).setCell hg1 _⟩
        case measure => simp [intOf]
      · have HW := Lib.hid (swapL_at' hp.out hq.out (fun e => hai e.symm))
        go_wp2_with fail
        go_roundw
        case rel => exact ⟨s2, (i : Int) - 1, _, by omega, by omega, by omega, by omega, by rw [E1], rfl, HN2.out, by rw [HW.out]; exact ((HS.out.set a p bp.1 bp.2).1.set i q bq.1 bq.2).1, (HB.out.setCell hg1 _).setCell hg1 _⟩
        case measure => simp [intOf]
    · have HD := Lib.hid (hsh.done hii)
      go_wp2_with fail
      go_ret
      exact ⟨A, c, rfl, by rw [← HD.out]; exact hown, hbel⟩
theorem implAuditOrder_any (key n : Int) (w : World) :
    Calls Try.prog 39 #[.int .i64 key, .int .i64 n] w (GivesI (auditV key n) (auditB key n) w) := by
  cases h1 : inR key 0 2147483646
  · have H1 := Lib.hid h1
    have R := Lib.hid (audit_out1 (n := n) h1)
    have V := Lib.hid (audit_no (audit_out1 (n := n) h1))
    clear h1
    go_enter Try.func39, Try.ntmps39
    go_wp2_with fail
    refine (within_val H1.out _).mono ?_
    rintro e w' ⟨rfl, rfl⟩
    go_wp2_with fail
    go_ret2
    exact ⟨none, 0, by rw [V.out, R.out]; rfl, by rw [V.out]; exact ownI_nil _ _, Below.refl _ _⟩
  · cases h2 : inR n 0 30
    · have H1 := Lib.hid h1
      have H2 := Lib.hid h2
      have R := Lib.hid (audit_out2 (key := key) h2)
      have V := Lib.hid (audit_no (audit_out2 (key := key) h2))
      clear h1 h2
      go_enter Try.func39, Try.ntmps39
      go_wp2_with fail
      refine (within_val H1.out _).mono ?_
      rintro e w' ⟨rfl, rfl⟩
      go_wp2_with fail
      refine (within_val H2.out _).mono ?_
      rintro e w' ⟨rfl, rfl⟩
      go_wp2_with fail
      go_ret2
      exact ⟨none, 0, by rw [V.out, R.out]; rfl, by rw [V.out]; exact ownI_nil _ _, Below.refl _ _⟩
    · have H1 := Lib.hid h1
      have H2 := Lib.hid h2
      have R := Lib.hid (audit_in h1 h2)
      have V := Lib.hid (audit_yes (audit_in h1 h2))
      obtain ⟨k0, k1⟩ := inR_true.1 h1
      obtain ⟨n0, n1⟩ := inR_true.1 h2
      obtain ⟨m, rfl⟩ := Int.eq_ofNat_of_zero_le n0
      have L : Hid ((auditL key m).length = m) := by show _ = _; rw [auditL_length]; simp
      clear h1 h2
      go_enter Try.func39, Try.ntmps39
      go_wp2_with fail
      refine (within_val H1.out _).mono ?_
      rintro e w' ⟨rfl, rfl⟩
      go_wp2_with fail
      refine (within_val H2.out _).mono ?_
      rintro e w' ⟨rfl, rfl⟩
      go_wp2_with fail
      go_loopw [6, 22] (fun o i wr => ∃ (k : Nat) (A : Option Addr) (c : Nat), k ≤ m ∧ i = .int .i64 k ∧ o = .slice A k c ∧ OwnI wr w.heap.size A k c (iota 0 k) ∧ Below w.heap.size w wr) (fun _ i _ => m - (intOf i).toNat)
      case atStart => exact ⟨0, _, _, by omega, rfl, rfl, by simpa [iota] using ownI_lit w, bel_alloc _ _⟩
      case round =>
        obtain ⟨k, A, c, hk, rfl, rfl, hown, hbel⟩ := hrel
        have hz1 : -9223372036854775808 ≤ (k : Int) := by omega
        have hz2 : (k : Int) ≤ 9223372036854775807 := by omega
        have hk2 : k ≤ 1099511627776 := by omega
        have hsz := hbel.size
        have Hown := Lib.hid hown
        clear hown
        by_cases hlt : k < m
        · go_wp2_with (at_builtin; refine app_int wr rfl _ _ rfl w.heap.size A k c _ rfl Hown.out (k : Int) hz1 hz2 rfl hk2 hsz ?_; intro A' c' w1 hown1 hg1)
          have hb1 := bel_app hbel Hown.out.1 hg1 hsz
          have ho1 : OwnI w1 w.heap.size A' (k + 1) c' (iota 0 (k + 1)) := by rw [iota_snoc]; simpa using hown1
          clear hown1 hg1
          go_roundw
          case rel => exact ⟨k + 1, A', c', by omega, by go_num, rfl, ho1, hb1⟩
          case measure => simp [intOf]; omega
        · obtain rfl : m = k := by omega
          go_wp2_with fail
          obtain ⟨wo, rfl⟩ : ∃ wo : World, wo = wr := ⟨_, rfl⟩
          go_loopw [7, 9] (fun s i wr => ∃ (ss ii : Int) (xs : List Int), 0 ≤ ss ∧ ss ≤ 2147483646 ∧ -1 ≤ ii ∧ ii < m ∧ s = .int .i64 ss ∧ i = .int .i64 ii ∧ ShufOk key m ss ii xs ∧ OwnI wr w.heap.size A m c xs ∧ Below w.heap.size w wr) (fun _ i _ => (intOf i + 1).toNat)
          case atStart => exact ⟨key, (m : Int) - 1, iota 0 m, k0, k1, by omega, by omega, rfl, rfl, ShufOk.start, Hown.out, hbel⟩
          case round =>
            obtain ⟨ss, ii, xs, s0, s1, i0, i1, rfl, rfl, hsh, hown, hbel⟩ := hrel
            clear Hown
            by_cases hii : 1 ≤ ii
            · skip
              have HN := Lib.hid (hsh.next hii)
              obtain ⟨i, rfl⟩ := Int.eq_ofNat_of_zero_le (show 0 ≤ ii by omega)
              have nb := nextS_bd ss
              obtain ⟨s2, hs2⟩ : ∃ s2, nextS ss = s2 := ⟨_, rfl⟩
              have r0 : 0 ≤ s2 % ((i : Int) + 1) := Int.emod_nonneg _ (by omega)
              have r1 : s2 % ((i : Int) + 1) < (i : Int) + 1 := Int.emod_lt_of_pos _ (by omega)
              obtain ⟨a, ha⟩ := Int.eq_ofNat_of_zero_le r0
              have HN2 : Hid (ShufOk key m s2 ((i : Int) - 1) (swapL xs i a)) := by
                have := HN.out
                rw [hs2, ha] at this
                exact this
              rw [hs2] at nb
              rw [ha] at r1
              have E1 : (48271 * ss + 11) % 2147483647 = s2 := hs2
              clear r0 HN hs2
              have hlen := hsh.1
              obtain ⟨g, rfl, hg1, hg2⟩ := hown.form (by omega)
              have hp' := List.getElem?_eq_getElem (l := xs) (i := i) (by simp at hlen; omega)
              have hq' := List.getElem?_eq_getElem (l := xs) (i := a) (by simp at hlen; omega)
              obtain ⟨p, hp⟩ : ∃ p, Hid (xs[i]? = some p) := ⟨_, hp'⟩
              obtain ⟨q, hq⟩ : ∃ q, Hid (xs[a]? = some q) := ⟨_, hq'⟩
              clear hp' hq' hlen
              have cp := hown.cell hp.out
              have cq := hown.cell hq.out
              have fp := hown.free i
              have fq := hown.free a
              have bp := bounds_i64 (hown.2 p (mem_of_at hp.out))
              have bq := bounds_i64 (hown.2 q (mem_of_at hq.out))
              have HS := Lib.hid hown
              have HB := Lib.hid hbel
              clear hown hbel hsh
              by_cases hai : a = i
              · subst hai
                obtain rfl : p = q := by have := hq.out; rw [hp.out] at this; simpa using this
                have HW := Lib.hid (swapL_at hp.out hp.out)
                go_wp2_with fail
                go_region
                all_goals (go_wp2_with fail)
                all_goals
                  go_roundw
                  case rel => exact ⟨s2, (a : Int) - 1, _, by omega, by omega, by omega, by omega, by rw [E1], rfl, HN2.out, by rw [HW.out]; exact ((HS.out.set a p bp.1 bp.2).1.set a p bp.1 bp.2).1, ((HB.out.setCell hg1 _).setCell hg1 _).drew⟩
                  case measure => simp [intOf]
              · have HW := Lib.hid (swapL_at hp.out hq.out)
                go_wp2_with fail
                go_region
                all_goals (go_wp2_with fail)
                all_goals
                  go_roundw
                  case rel => exact ⟨s2, (i : Int) - 1, _, by omega, by omega, by omega, by omega, by rw [E1], rfl, HN2.out, by rw [HW.out]; exact ((HS.out.set i q bq.1 bq.2).1.set a p bp.1 bp.2).1, ((HB.out.setCell hg1 _).setCell hg1 _).drew⟩
                  case measure => simp [intOf]
            · have HD := Lib.hid (hsh.done hii)
              go_wp2_with fail
              go_ret2
              exact ⟨A, c, by rw [V.out, R.out, L.out]; rfl, by rw [V.out, L.out, ← HD.out]; exact hown, hbel⟩
end Go.Proofs.Ytfanjnoaifhnnaa
