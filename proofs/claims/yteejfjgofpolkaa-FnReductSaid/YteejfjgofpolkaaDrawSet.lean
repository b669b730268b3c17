/- A set of arguments that is drawn. -/
import Derived.Test.YteejfjgofpolkaaDrawF
import Derived.Test.YteejfjgofpolkaaSetB
namespace Go.Proofs.Yteejfjgofpolkaa
set_option linter.unusedVariables false
set_option linter.unusedSimpArgs false
set_option maxRecDepth 100000
open Go.RowKit
theorem bitsTo_congr {m o : Nat} : ∀ {k : Nat}, (∀ i, i < k → m.testBit i = o.testBit i) → bitsTo m k = bitsTo o k
  | 0, _ => rfl
  | k + 1, h => by rw [bitsTo_succ, bitsTo_succ, bitsTo_congr fun i hi => h i (by omega), h k (by omega)]
theorem bitsTo_or {m a : Nat} : bitsTo (m ||| 2 ^ a) (a + 1) = bitsTo m a ++ [(a : Int)] := by
  rw [bitsTo_succ, bitsTo_congr (o := m) fun i hi => by rw [or_pow_bit]; simp; omega, or_pow_bit]
  simp
theorem bitsTo_no {m a : Nat} (h : m < 2 ^ a) : bitsTo m (a + 1) = bitsTo m a := by
  rw [bitsTo_succ, Nat.testBit_lt_two_pow h]
  simp
theorem bitsTo_top {m n : Nat} (h : m < 2 ^ n) : ∀ {k : Nat}, n ≤ k → bitsTo m k = bitsTo m n
  | 0, hk => by rw [show n = 0 by omega]
  | k + 1, hk => by
    by_cases e : n = k + 1
    · rw [e]
    · rw [bitsTo_no (Nat.lt_of_lt_of_le h (Nat.pow_le_pow_right (by omega) (by omega)))]
      exact bitsTo_top h (by omega)
set_option maxHeartbeats 1000000 in
theorem R8Set_any (A : Option Addr) (n c : Nat) (bs : List Int) (N : Nat) (hN : N ≤ 10) (w : World) (h : Ints .u8 w A n c bs) :
    Calls Try.prog 51 #[.slice A n c, .int .i64 N] w fun e w' => ∃ (m : Nat) (B : Option Addr) (d : Nat), m < 2 ^ N ∧ e = .returned (.slice B (bitsTo m 10).length d) ∧ OwnI w' w.heap.size B (bitsTo m 10).length d (bitsTo m 10) ∧ Below w.heap.size w w' := by
  go_enter Try.func51, Try.ntmps51
  go_wp2_with fail
  refine (l00From_any A n c bs _ h).mono ?_
  rintro e w1 ⟨g, rfl, hg, hs, hb⟩
  have B1 := Lib.hid hb
  have gl := hs.lt
  have ba := bel_alloc w1 (.cells #[] 2)
  have S1 := Lib.hid (hs.kept ba)
  have O1 := Lib.hid (ownI_lit w1)
  have BA := Lib.hid (bel_trans hb ba)
  have gla : g < w1.heap.size := gl
  have sz1 : w.heap.size ≤ w1.heap.size := hb.size
  clear hs hb ba
  go_wp2_with fail
  refine (pick_any 2 g A n c bs 0 _ S1.out (by omega) (by omega) (by omega)).mono ?_
  rintro e w2 ⟨p, k1, rfl, hp, k10, k11, hs1, hg1⟩
  obtain ⟨p0, p1⟩ := hp.lt (by omega)
  have ne : ∀ {W W' : World} {B : Option Addr} {d m : Nat} {l : List Int}, OwnI W w1.heap.size B m d l → W.grownBy W' (some g) → OwnI W' w1.heap.size B m d l := fun {W W' B d m l} o hG => o.kept hG (by
    cases hv : (Value.slice B m d).ownBlock with
    | none => exact .inl rfl
    | some x => exact .inr (fun e => by injection e with e; have := (o.block x hv).1; omega))
  have O2 := Lib.hid (ne O1.out hg1)
  have S2 := Lib.hid hs1
  have B2 := Lib.hid (BA.out.grown hg1 BA.out.size (fun r hr => by injection hr with hr; omega))
  have ew : IntKind.i64.wrap (2 + p) = 2 + p := IntWalk.i64_in _ (by omega)
  have NE : Hid (∀ {W W' : World} {B : Option Addr} {d m : Nat} {l : List Int}, OwnI W w1.heap.size B m d l → W.grownBy W' (some g) → OwnI W' w1.heap.size B m d l) := fun {_ _ _ _ _ _} o h => ne o h
  have s12 := hg1.size
  have s02 : w1.heap.size ≤ w2.heap.size := by simp at s12; omega
  clear hs1 hg1 hp O1 ne
  go_wp2_with fail
  go_loopw [6, 8] (fun s t wr => ∃ (a m : Nat) (B : Option Addr) (d k : Nat), a ≤ N ∧ t = .int .i64 a ∧ m < 2 ^ a ∧ s = .slice B (bitsTo m a).length d ∧ k ≤ 2 + 2 * a ∧ OwnI wr w1.heap.size B (bitsTo m a).length d (bitsTo m a) ∧ Src wr g A n c bs k ∧ w1.heap.size ≤ wr.heap.size ∧ Below w.heap.size w wr) (fun _ t _ => N - (intOf t).toNat)
  case atStart => exact ⟨0, 0, _, _, k1, by omega, rfl, by simp, rfl, by omega, O2.out, S2.out, s02, B2.out⟩
  case round =>
    obtain ⟨a, m, B, d, k, ha, rfl, hm, rfl, hk, hO, hS, hz, hB⟩ := hrel
    have HO := Lib.hid hO
    have HS := Lib.hid hS
    have HB := Lib.hid hB
    have ll := bitsTo_len m a
    clear hO hS hB
    by_cases hlt : a < N
    · have d0 := decide_eq_true (show (a : Int) < (N : Int) by omega)
      have BO := Lib.hid (@bitsTo_or m a)
      have BN := Lib.hid (bitsTo_no hm)
      have P1 := Lib.hid (show m ||| 2 ^ a < 2 ^ (a + 1) from Nat.or_lt_two_pow (Nat.lt_of_lt_of_le hm (Nat.pow_le_pow_right (by omega) (by omega))) (Nat.pow_lt_pow_right (by omega) (by omega)))
      have P2 := Lib.hid (show m < 2 ^ (a + 1) from Nat.lt_of_lt_of_le hm (Nat.pow_le_pow_right (by omega) (by omega)))
      obtain ⟨L, hL⟩ : ∃ l, bitsTo m a = l := ⟨_, rfl⟩
      rw [hL] at HO BO BN ll ⊢
      clear hL hm
      go_wp2_with fail
      refine (one_any (2 + p) g A n c bs k _ HS.out (by omega) (by omega) (by omega)).mono ?_
      rintro e w4 ⟨r, k4, rfl, k40, k41, hs4, hg4⟩
      have O4 := Lib.hid (NE.out HO.out hg4)
      have S4 := Lib.hid hs4
      have B4 := Lib.hid (HB.out.grown hg4 HB.out.size (fun r hr => by injection hr with hr; omega))
      have sz4 : w1.heap.size ≤ w4.heap.size := by have := hg4.size; omega
      clear hs4 hg4
      cases r
      · go_wp2_with fail
        go_roundw
        case rel => exact ⟨a + 1, m, B, d, k4, by omega, by go_num, P2.out, by rw [BN.out], by omega, by rw [BN.out]; exact O4.out, S4.out, sz4, B4.out⟩
        case measure => simp [intOf]; omega
      · go_wp2_with (at_builtin; refine app_int_at w4 rfl _ _ rfl w1.heap.size B L.length d L rfl O4.out (a : Int) (by omega) (by omega) rfl (by omega) sz4 ?_; intro A7 c7 w7 p1 p2 p3; have P7 := Lib.hid p1; have S7 := Lib.hid (S4.out.grown p2 (fun x hx => by have := (O4.out.block x hx).1; omega)); have B7 := Lib.hid (B4.out.grown p2 B4.out.size (fun x hx => by have := (O4.out.block x hx).1; omega)); have sz7 : w1.heap.size ≤ w7.heap.size := (by have := p2.size; omega); clear p1 p2 p3)
        go_roundw
        case rel => exact ⟨a + 1, m ||| 2 ^ a, A7, c7, k4, by omega, by go_num, P1.out, by rw [BO.out]; simp, by omega, by rw [BO.out]; simpa using P7.out, S7.out, sz7, B7.out⟩
        case measure => simp [intOf]; omega
    · obtain rfl : a = N := by omega
      have d0 := decide_eq_false (show ¬ (a : Int) < (a : Int) by omega)
      have E := Lib.hid (show bitsTo m a = bitsTo m 10 from (bitsTo_top hm hN).symm)
      rw [E.out] at HO ⊢
      have HM := Lib.hid hm
      clear hm
      go_wp2_with fail
      go_ret
      exact ⟨m, B, d, HM.out, rfl, HO.out.mono sz1, HB.out⟩
end Go.Proofs.Yteejfjgofpolkaa
