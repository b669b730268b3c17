/- The reference's sets of arguments: what they attack and defend, complete and preferred ones. -/
import Derived.Test.YteejfjgofpolkaaGrf
namespace Go.Proofs.Yteejfjgofpolkaa
set_option linter.unusedVariables false
set_option linter.unusedSimpArgs false
set_option maxRecDepth 100000
open Go.RowKit Go.Deep
theorem Ints.get {w : World} {A : Option Addr} {n c j : Nat} {zs : List Int} {z : Int} (h : Ints .i64 w A n c zs) (hz : zs[j]? = some z) : ∃ b off, A = some ⟨b, off, none⟩ ∧ w.cell? ⟨b, off + j, none⟩ = some (.int .i64 z) := by
  have hj : j < n := by
    have := (List.getElem?_eq_some_iff.1 hz).1
    have := h.1
    omega
  obtain ⟨b, off, z', e, _, hc, _, _, hz'⟩ := h.at hj
  have : z = z' := by have := hz.symm.trans hz'.out; injection this
  subst this
  exact ⟨b, off, e, hc⟩
theorem shl_wrap10 {a : Nat} (h : a ≤ 10) : IntKind.i64.wrap ((2 : Int) ^ a) = ((2 ^ a : Nat) : Int) := by
  rcases Nat.lt_or_ge a 10 with h1 | h1
  · exact shl_wrap h1
  · obtain rfl : a = 10 := by omega
    decide
theorem int_eqn (a b : Nat) : (((a : Nat) : Int) == (b : Int)) = decide (a = b) := by
  show decide ((a : Int) = (b : Int)) = decide (a = b)
  exact decide_eq_decide.2 Int.ofNat_inj
theorem wrap_pred {N : Nat} (h : N ≤ 1024) : IntKind.i64.wrap ((N : Int) - 1) = (N : Int) - 1 := IntWalk.i64_in _ (by omega)
theorem two_pow_le {a : Nat} (h : a ≤ 10) : 2 ^ a ≤ 1024 := by
  have := Nat.pow_le_pow_right (n := 2) (by omega) h
  omega
/-- The masks below k for which p holds. -/
def mL (p : Nat → Bool) (k : Nat) : List Int := ((List.range k).filter p).map fun m : Nat => (m : Int)
theorem mL_yes {p : Nat → Bool} {k : Nat} (h : p k = true) : mL p (k + 1) = mL p k ++ [(k : Int)] := by simp [mL, List.range_succ, List.filter_append, h]
theorem mL_no {p : Nat → Bool} {k : Nat} (h : p k = false) : mL p (k + 1) = mL p k := by simp [mL, List.range_succ, List.filter_append, h]
theorem mL_len (p : Nat → Bool) (k : Nat) : (mL p k).length ≤ k := by unfold mL; rw [List.length_map]; exact Nat.le_trans (List.length_filter_le _ _) (by simp)
def nI (l : List Nat) : List Int := l.map fun m : Nat => (m : Int)
theorem mL_all (n : Nat) (p : Nat → Bool) : mL p (2 ^ n) = nI (allM n p) := rfl
theorem nI_at {l : List Nat} {j m : Nat} (h : l[j]? = some m) : (nI l)[j]? = some (m : Int) := by unfold nI; rw [List.getElem?_map, h]; rfl
theorem nI_len (l : List Nat) : (nI l).length = l.length := by simp [nI]
def hitK (es : List (Nat × Nat)) (m k : Nat) : Nat := hitM (es.filter fun p => decide (p.1 < k)) m
theorem hitK_bit (es : List (Nat × Nat)) (m k b : Nat) : (hitK es m k).testBit b = true ↔ ∃ a, a < k ∧ (a, b) ∈ es ∧ m.testBit a = true := by
  unfold hitK
  rw [hitM_bit]
  constructor
  · rintro ⟨a, h1, h2⟩
    obtain ⟨h3, h4⟩ := List.mem_filter.1 h1
    exact ⟨a, by simpa using h4, h3, h2⟩
  · rintro ⟨a, h1, h2, h3⟩
    exact ⟨a, List.mem_filter.2 ⟨h2, by simpa using h1⟩, h3⟩
theorem hitK_zero (es : List (Nat × Nat)) (m : Nat) : hitK es m 0 = 0 := nat_zero_bits.2 fun i => by
  cases e : (hitK es m 0).testBit i
  · rfl
  · obtain ⟨a, h, _⟩ := (hitK_bit es m 0 i).1 e
    omega
theorem hitK_yes {es : List (Nat × Nat)} {m k : Nat} (h : m.testBit k = true) : hitK es m (k + 1) = hitK es m k ||| attM (flip es) k := Nat.eq_of_testBit_eq fun b => by
  rw [Bool.eq_iff_iff, Nat.testBit_or, Bool.or_eq_true, hitK_bit, hitK_bit, attM_bit, flip_mem]
  constructor
  · rintro ⟨a, h1, h2, h3⟩
    by_cases e : a = k
    · subst e; exact .inr h2
    · exact .inl ⟨a, by omega, h2, h3⟩
  · rintro (⟨a, h1, h2, h3⟩ | h2)
    · exact ⟨a, by omega, h2, h3⟩
    · exact ⟨k, by omega, h2, h⟩
theorem hitK_no {es : List (Nat × Nat)} {m k : Nat} (h : m.testBit k = false) : hitK es m (k + 1) = hitK es m k := Nat.eq_of_testBit_eq fun b => by
  rw [Bool.eq_iff_iff, hitK_bit, hitK_bit]
  constructor
  · rintro ⟨a, h1, h2, h3⟩
    by_cases e : a = k
    · subst e; rw [h] at h3; exact absurd h3 (by simp)
    · exact ⟨a, by omega, h2, h3⟩
  · rintro ⟨a, h1, h2, h3⟩
    exact ⟨a, by omega, h2, h3⟩
theorem hitK_end {n : Nat} {es : List (Nat × Nat)} (ok : FrOk n es) (m : Nat) : hitK es m n = hitM es m := by
  unfold hitK
  rw [List.filter_eq_self.2 fun p hp => by simpa using (ok.inn p hp).1]
theorem hitK_lt {n : Nat} {es : List (Nat × Nat)} (ok : FrOk n es) (m k : Nat) : hitK es m k < 1024 := pow10 ok.n10 (hitM_lt (fun p hp => (ok.inn p (List.mem_filter.1 hp).1).2) m)
theorem hit_ok (n : Nat) (es : List (Nat × Nat)) (ok : FrOk n es) (x : Nat) (hx : x < 1024) (g : Nat) (w : World) (h : Gr w g n es) :
    Calls Try.prog 101 #[.pointer (some ⟨g, 0, none⟩), .int .i64 x] w fun e w' => e = .returned (.int .i64 (hitM es x : Nat)) ∧ w = w' := by
  obtain ⟨A, d, B, e, C, HA, HB⟩ := h
  have y0 := C.cell 0 rfl
  have y1 := C.cell 1 rfl
  have IA := Lib.hid HA
  have n10 := ok.n10
  have OK := Lib.hid ok
  have EN := Lib.hid (hitK_end ok x)
  clear C HA HB ok
  go_enter Try.func101, Try.ntmps101
  go_wp2_with fail
  go_loop [5, 6] (fun o t => ∃ k : Nat, k ≤ n ∧ t = .int .i64 k ∧ o = .int .i64 (hitK es x k : Nat)) (fun _ t => n - (intOf t).toNat)
  case atStart => exact ⟨0, Nat.zero_le _, rfl, by rw [hitK_zero]; rfl⟩
  case round =>
    obtain ⟨k, hk, rfl, rfl⟩ := hrel
    by_cases hlt : k < n
    · obtain ⟨b, off, rfl, hc⟩ := IA.out.get (attL_at (flip es) hlt)
      have hh := hitK_lt OK.out x k
      have lo := outM_lt (n := 10) (es := es) (fun q hq => by have := (OK.out.inn q hq).2; omega) k
      have hy := fun h => hitK_yes (es := es) (m := x) (k := k) h
      have hn := fun h => hitK_no (es := es) (m := x) (k := k) h
      obtain ⟨M, hM⟩ : ∃ r, hitK es x k = r := ⟨_, rfl⟩
      obtain ⟨R, hR⟩ : ∃ r, attM (flip es) k = r := ⟨_, rfl⟩
      rw [hR] at hc lo hy
      rw [hM] at hh hy hn ⊢
      have hor := i64_or M R (by omega) (by omega)
      have hd := decide_eq_true (show (k : Int) < (n : Int) by omega)
      have j0 : (0 : Int) ≤ (k : Int) := by omega
      have j1 : (k : Int) < (n : Int) := by omega
      cases hb : x.testBit k
      · have E := Lib.hid (hn hb)
        have HV := Lib.hid hb
        clear hy hn hb hM hR
        go_wp2_with fail
        refine (l08In_v HV.out hx (by omega) _).mono ?_
        rintro e w1 ⟨rfl, rfl⟩
        go_wp2_with fail
        go_round
        case rel => exact ⟨k + 1, by omega, by go_num, by rw [E.out]⟩
        case measure => simp [intOf]; omega
      · have E := Lib.hid (hy hb)
        have HV := Lib.hid hb
        clear hy hn hb hM hR
        go_wp2_with fail
        refine (l08In_v HV.out hx (by omega) _).mono ?_
        rintro e w1 ⟨rfl, rfl⟩
        go_wp2_with fail
        go_round
        case rel => exact ⟨k + 1, by omega, by go_num, by rw [E.out]⟩
        case measure => simp [intOf]; omega
    · obtain rfl : k = n := by omega
      go_wp2_with fail
      go_ret
      exact ⟨by rw [EN.out]; rfl, rfl⟩
theorem free_ok (n : Nat) (es : List (Nat × Nat)) (ok : FrOk n es) (x : Nat) (hx : x < 1024) (g : Nat) (w : World) (h : Gr w g n es) :
    Calls Try.prog 117 #[.pointer (some ⟨g, 0, none⟩), .int .i64 x] w fun e w' => e = .returned (.bool (freeB es x)) ∧ w = w' := by
  have H := Lib.hid h
  have OK := Lib.hid ok
  have hh := hitM_lt10 ok x
  have han := i64_and (hitM es x) x (by omega) (by omega)
  have hq := int_eq0 (hitM es x &&& x)
  have FR := Lib.hid (show freeB es x = decide (hitM es x &&& x = 0) from rfl)
  obtain ⟨hit, hhit⟩ : ∃ r, hitM es x = r := ⟨_, rfl⟩
  rw [hhit] at han hq FR hh
  obtain ⟨r, hr⟩ : ∃ r, hit &&& x = r := ⟨_, rfl⟩
  rw [hr] at han hq FR
  have HH := Lib.hid hhit
  clear h ok hhit hr
  go_enter Try.func117, Try.ntmps117
  go_wp2_with fail
  refine (hit_ok n es OK.out x hx g _ H.out).mono ?_
  rintro e w1 ⟨rfl, rfl⟩
  rw [HH.out]
  go_wp2_with fail
  go_ret
  exact ⟨by rw [FR.out]; rfl, rfl⟩
theorem defends_ok (n : Nat) (es : List (Nat × Nat)) (ok : FrOk n es) (x : Nat) (hx : x < 1024) (g : Nat) (w : World) (h : Gr w g n es) :
    Calls Try.prog 80 #[.pointer (some ⟨g, 0, none⟩), .int .i64 x] w fun e w' => e = .returned (.int .i64 (dfdM n es x : Nat)) ∧ w = w' := by
  have H := Lib.hid h
  obtain ⟨A, d, B, e, C, HA, HB⟩ := h
  have y0 := C.cell 0 rfl
  have y2 := C.cell 2 rfl
  have IB := Lib.hid HB
  have n10 := ok.n10
  have OK := Lib.hid ok
  have hh := hitM_lt10 ok x
  clear C HA HB ok
  go_enter Try.func80, Try.ntmps80
  go_wp2_with fail
  refine (hit_ok n es OK.out x hx g _ H.out).mono ?_
  rintro e w1 ⟨rfl, rfl⟩
  obtain ⟨hit, hhit⟩ : ∃ r, hitM es x = r := ⟨_, rfl⟩
  rw [hhit] at hh ⊢
  go_wp2_with fail
  go_loop [6, 7] (fun o t => ∃ k : Nat, k ≤ n ∧ t = .int .i64 k ∧ o = .int .i64 (mk (fun a => decide (ldf (attM es a) hit = 0)) k : Nat)) (fun _ t => n - (intOf t).toNat)
  case atStart => exact ⟨0, Nat.zero_le _, rfl, by simp [mk]⟩
  case round =>
    obtain ⟨k, hk, rfl, rfl⟩ := hrel
    by_cases hlt : k < n
    · obtain ⟨b, off, rfl, qa⟩ := IB.out.get (attL_at es hlt)
      have hyb := attM_lt (n := 10) (es := es) (fun q hq => by have := (OK.out.inn q hq).1; omega) k
      have hd := decide_eq_true (show (k : Int) < (n : Int) by omega)
      have j0 : (0 : Int) ≤ (k : Int) := by omega
      have j1 : (k : Int) < (n : Int) := by omega
      have mn0 : min k 64 = k := by omega
      have hmy := fun h => mk_yes0 (p := fun a => decide (ldf (attM es a) hit = 0)) (k := k) h
      have hmn := fun h => mk_no (p := fun a => decide (ldf (attM es a) hit = 0)) (k := k) h
      have hmk := pow10 (n := 10) (by omega) (Nat.lt_of_lt_of_le (mk_lt (fun a => decide (ldf (attM es a) hit = 0)) k) (Nat.pow_le_pow_right (by omega) (show k ≤ 10 by omega)))
      have hsl := shl_wrap (a := k) (by omega)
      have h2p := two_pow_lt (a := k) (by omega)
      obtain ⟨yb, hy⟩ : ∃ r, attM es k = r := ⟨_, rfl⟩
      rw [hy] at qa hyb
      have han := i64_andNot yb hit (by omega) (by omega)
      obtain ⟨M, hM⟩ : ∃ r, mk (fun a => decide (ldf (attM es a) hit = 0)) k = r := ⟨_, rfl⟩
      rw [hM] at hmk hmy ⊢
      obtain ⟨R, hR⟩ : ∃ r, ldf yb hit = r := ⟨_, rfl⟩
      rw [hR] at han
      have hq := int_eq0 R
      by_cases hz : R = 0
      · have hor := i64_or M (2 ^ k) (by omega) (by omega)
        rw [show ((2 ^ k : Nat) : Int) = (2 : Int) ^ k by simp] at hor
        have E := Lib.hid (hmy (by rw [hy, hR]; exact decide_eq_true hz))
        subst hz
        clear hmy hmn hy hM hR
        go_wp2_with fail
        go_round
        case rel => exact ⟨k + 1, by omega, by go_num, by rw [E.out]⟩
        case measure => simp [intOf]; omega
      · have E := Lib.hid ((hmn (by rw [hy, hR]; exact decide_eq_false hz)).trans hM)
        rw [decide_eq_false hz] at hq
        clear hmy hmn hy hM hR hz
        go_wp2_with fail
        go_round
        case rel => exact ⟨k + 1, by omega, by go_num, by rw [E.out]⟩
        case measure => simp [intOf]; omega
    · obtain rfl : k = n := by omega
      have E := Lib.hid (show mk (fun a => decide (ldf (attM es a) hit = 0)) k = dfdM k es x by rw [← hhit]; rfl)
      clear hhit
      go_wp2_with fail
      go_ret
      exact ⟨by rw [E.out]; rfl, rfl⟩
theorem all_ok (n : Nat) (es : List (Nat × Nat)) (n10 : n ≤ 10) (g : Nat) (w : World) (h : Gr w g n es) :
    Calls Try.prog 78 #[.pointer (some ⟨g, 0, none⟩)] w fun e w' => e = .returned (.int .i64 ((2 ^ n : Nat) - 1 : Int)) ∧ w = w' := by
  obtain ⟨A, d, B, e, C, HA, HB⟩ := h
  have y0 := C.cell 0 rfl
  have hsl := shl_wrap10 n10
  have h2p := two_pow_le n10
  have j0 : (0 : Int) ≤ (n : Int) := by omega
  have mn0 : min n 64 = n := by omega
  have ew := wrap_pred h2p
  rw [show ((2 ^ n : Nat) : Int) = (2 : Int) ^ n by simp] at ew hsl
  have EQ := Lib.hid (show ((2 ^ n : Nat) : Int) = (2 : Int) ^ n by simp)
  clear C HA HB
  go_enter Try.func78, Try.ntmps78
  go_wp2_with fail
  go_ret
  exact ⟨by rw [EQ.out]; rfl, rfl⟩
set_option maxHeartbeats 1000000 in
theorem complete_ok (n : Nat) (es : List (Nat × Nat)) (ok : FrOk n es) (g : Nat) (w : World) (h : Gr w g n es) :
    Calls Try.prog 102 #[.pointer (some ⟨g, 0, none⟩)] w fun e w' => ∃ A c, e = .returned (.slice A (nI (allM n (compB n es))).length c) ∧ OwnI w' w.heap.size A (nI (allM n (compB n es))).length c (nI (allM n (compB n es))) ∧ Below w.heap.size w w' := by
  have H := Lib.hid h
  have n10 := ok.n10
  have OK := Lib.hid ok
  have h2p := two_pow_le n10
  have O0 := Lib.hid (ownI_lit w)
  have B0 := Lib.hid (bel_alloc w (.cells #[] 2))
  have EN := Lib.hid (mL_all n (compB n es))
  obtain ⟨N, hN⟩ : ∃ r, 2 ^ n = r := ⟨_, rfl⟩
  rw [hN] at h2p EN
  have HN := Lib.hid hN
  clear h ok hN
  go_enter Try.func102, Try.ntmps102
  go_wp2_with fail
  go_loopw [3, 4] (fun o t wr => ∃ (k : Nat) (A : Option Addr) (c : Nat), k ≤ N ∧ t = .int .i64 k ∧ o = .slice A (mL (compB n es) k).length c ∧ OwnI wr w.heap.size A (mL (compB n es) k).length c (mL (compB n es) k) ∧ Below w.heap.size w wr) (fun _ t _ => N - (intOf t).toNat)
  case atStart => exact ⟨0, _, _, Nat.zero_le _, rfl, rfl, O0.out, B0.out⟩
  case round =>
    obtain ⟨k, A, c, hk, rfl, rfl, hO, hB⟩ := hrel
    have HO := Lib.hid hO
    have HB := Lib.hid hB
    clear hO hB
    have AL := Lib.hid (all_ok n es n10 g wr (H.out.below HB.out))
    rw [HN.out] at AL
    by_cases hlt : k < N
    · have hd : decide ((k : Int) ≤ (N : Int) - 1) = true := decide_eq_true (by omega)
      have hs := HB.out.size
      have hl := mL_len (compB n es) k
      have dl := pow10 n10 (dfdM_lt n es k)
      have FR := Lib.hid (free_ok n es OK.out k (by omega) g wr (H.out.below HB.out))
      have DF := Lib.hid (defends_ok n es OK.out k (by omega) g wr (H.out.below HB.out))
      have hy := fun h => mL_yes (p := compB n es) (k := k) h
      have hn := fun h => mL_no (p := compB n es) (k := k) h
      have cb : compB n es k = (freeB es k && decide (dfdM n es k = k)) := rfl
      have hq := int_eqn (dfdM n es k) k
      obtain ⟨D, hD⟩ : ∃ r, dfdM n es k = r := ⟨_, rfl⟩
      rw [hD] at DF cb hq dl
      cases hf : freeB es k
      · rw [hf] at FR cb
        have E := Lib.hid (hn cb)
        clear hy hn cb hf hD
        go_wp2_with fail
        refine AL.out.mono ?_
        rintro e w1 ⟨rfl, rfl⟩
        go_wp2_with fail
        refine FR.out.mono ?_
        rintro e w1 ⟨rfl, rfl⟩
        go_wp2_with fail
        go_roundw
        case rel => exact ⟨k + 1, A, c, by omega, by go_num, by rw [E.out], by rw [E.out]; exact HO.out, HB.out⟩
        case measure => simp [intOf]; omega
      · rw [hf] at FR cb
        by_cases he : D = k
        · have E := Lib.hid (hy (by rw [cb, decide_eq_true he]; rfl))
          rw [decide_eq_true he] at hq
          clear hy hn cb hf hD he
          go_wp2_with fail
          refine AL.out.mono ?_
          rintro e w1 ⟨rfl, rfl⟩
          go_wp2_with fail
          refine FR.out.mono ?_
          rintro e w1 ⟨rfl, rfl⟩
          go_wp2_with fail
          refine DF.out.mono ?_
          rintro e w1 ⟨rfl, rfl⟩
          go_wp2_with (at_builtin; refine app_int_at wr rfl _ _ rfl w.heap.size A (mL (compB n es) k).length c (mL (compB n es) k) rfl HO.out (k : Int) (by omega) (by omega) rfl (by omega) hs ?_; intro A7 c7 w7 p1 p2 p3; have P1 := Lib.hid p1; have B7 := Lib.hid (HB.out.grown p2 hs (fun x hx => (HO.out.block x hx).1)); clear p1 p2 p3)
          go_roundw
          case rel => exact ⟨k + 1, A7, c7, by omega, by go_num, by rw [E.out]; simp, by rw [E.out]; simpa using P1.out, B7.out⟩
          case measure => simp [intOf]; omega
        · have E := Lib.hid (hn (by rw [cb, decide_eq_false he]; rfl))
          rw [decide_eq_false he] at hq
          clear hy hn cb hf hD he
          go_wp2_with fail
          refine AL.out.mono ?_
          rintro e w1 ⟨rfl, rfl⟩
          go_wp2_with fail
          refine FR.out.mono ?_
          rintro e w1 ⟨rfl, rfl⟩
          go_wp2_with fail
          refine DF.out.mono ?_
          rintro e w1 ⟨rfl, rfl⟩
          go_wp2_with fail
          go_roundw
          case rel => exact ⟨k + 1, A, c, by omega, by go_num, by rw [E.out], by rw [E.out]; exact HO.out, HB.out⟩
          case measure => simp [intOf]; omega
    · obtain rfl : k = N := by omega
      have hd : decide ((k : Int) ≤ (k : Int) - 1) = false := decide_eq_false (by omega)
      have OE : Hid (OwnI wr w.heap.size A (nI (allM n (compB n es))).length c (nI (allM n (compB n es)))) := by show OwnI _ _ _ _ _ _; rw [← EN.out]; exact HO.out
      go_wp2_with fail
      refine AL.out.mono ?_
      rintro e w1 ⟨rfl, rfl⟩
      go_wp2_with fail
      go_ret
      exact ⟨A, c, by rw [EN.out]; rfl, OE.out, HB.out⟩
def gr1 (l : List Nat) (i m k : Nat) : Bool := ((List.range k).all fun j => decide (j = i) || ((l[j]?).map fun o => decide (ldf m o ≠ 0)).getD true)
theorem gr1_succ {l : List Nat} {i m k o : Nat} (h : l[k]? = some o) : gr1 l i m (k + 1) = (gr1 l i m k && (decide (k = i) || decide (ldf m o ≠ 0))) := by
  unfold gr1
  rw [List.range_succ, List.all_append]
  simp [h]
theorem gr1_end {l : List Nat} (hl : l.Nodup) {i m : Nat} (h : l[i]? = some m) : gr1 l i m l.length = l.all fun o => decide (o = m) || decide (ldf m o ≠ 0) := by
  rw [Bool.eq_iff_iff]
  unfold gr1
  rw [List.all_eq_true, List.all_eq_true]
  constructor
  · intro H o ho
    obtain ⟨j, hj, rfl⟩ := List.mem_iff_getElem.1 ho
    have := H j (List.mem_range.2 hj)
    rw [List.getElem?_eq_getElem hj] at this
    simp only [Option.map_some, Option.getD_some, Bool.or_eq_true, decide_eq_true_eq] at this ⊢
    rcases this with rfl | this
    · left
      have := List.getElem?_eq_getElem hj
      rw [h] at this
      injection this with this
      exact this.symm
    · exact .inr this
  · intro H j hj
    have hj := List.mem_range.1 hj
    have := H l[j] (List.getElem_mem hj)
    rw [List.getElem?_eq_getElem hj]
    simp only [Option.map_some, Option.getD_some, Bool.or_eq_true, decide_eq_true_eq] at this ⊢
    rcases this with e | this
    · left
      obtain ⟨hi, e2⟩ := List.getElem?_eq_some_iff.1 h
      have e3 : l[j] = l[i] := e.trans e2.symm
      rcases Nat.lt_trichotomy j i with hlt | heq | hlt
      · exact absurd e3 (List.pairwise_iff_getElem.1 hl j i hj hi hlt)
      · exact heq
      · exact absurd e3.symm (List.pairwise_iff_getElem.1 hl i j hi hj hlt)
    · exact .inr this
set_option maxHeartbeats 2000000 in
theorem specPref_ok (n : Nat) (es : List (Nat × Nat)) (ok : FrOk n es) (g : Nat) (w : World) (h : Gr w g n es) :
    Calls Try.prog 79 #[.pointer (some ⟨g, 0, none⟩)] w fun e w' => ∃ A c, e = .returned (.slice A (nI (prefM n es)).length c) ∧ OwnI w' w.heap.size A (nI (prefM n es)).length c (nI (prefM n es)) ∧ Below w.heap.size w w' := by
  have H := Lib.hid h
  have n10 := ok.n10
  have OK := Lib.hid ok
  have EN := Lib.hid (pref_spec ok)
  have ND := Lib.hid (allM_nodup n (compB n es))
  have LB := Lib.hid (fun (j m : Nat) (hj : (allM n (compB n es))[j]? = some m) => pow10 n10 (allM_mem.1 (List.mem_of_getElem? hj)).1)
  have hlen : (allM n (compB n es)).length ≤ 1024 := by
    refine Nat.le_trans (List.length_filter_le _ _) ?_
    rw [List.length_range]
    exact two_pow_le n10
  clear h ok
  go_enter Try.func79, Try.ntmps79
  go_wp2_with fail
  refine (complete_ok n es OK.out g _ H.out).mono ?_
  rintro e w1 ⟨A, c, rfl, o1, b1⟩
  obtain ⟨L, hL⟩ : ∃ l, allM n (compB n es) = l := ⟨_, rfl⟩
  rw [hL] at EN ND LB hlen o1 ⊢
  rw [nI_len] at o1 ⊢
  have O1 := Lib.hid o1
  have P0 := Lib.hid (ownI_lit w1)
  have B1 := Lib.hid b1
  have B2 := Lib.hid (bel_trans b1 (bel_alloc w1 (.cells #[] 2)))
  have O2 := Lib.hid (O1.out.below (bel_alloc w1 (.cells #[] 2)))
  have z1 := b1.size
  clear o1 b1 hL
  go_wp2_with fail
  go_loopw [4, 5] (fun o t wr => ∃ (k : Nat) (A' : Option Addr) (c' : Nat), k ≤ L.length ∧ t = .int .i64 k ∧ o = .slice A' (nI ((L.take k).filter fun m => L.all fun o => decide (o = m) || decide (ldf m o ≠ 0))).length c' ∧ OwnI wr w1.heap.size A' (nI ((L.take k).filter fun m => L.all fun o => decide (o = m) || decide (ldf m o ≠ 0))).length c' (nI ((L.take k).filter fun m => L.all fun o => decide (o = m) || decide (ldf m o ≠ 0))) ∧ OwnI wr w.heap.size A L.length c (nI L) ∧ w1.heap.size ≤ wr.heap.size ∧ (∀ g, (Value.slice A L.length c).ownBlock = some g → g < w1.heap.size) ∧ Below w.heap.size w wr) (fun _ t _ => L.length - (intOf t).toNat)
  case atStart => exact ⟨0, _, _, Nat.zero_le _, rfl, rfl, P0.out, O2.out, by simp, fun g hg => (O1.out.block g hg).2, B2.out⟩
  case round =>
    obtain ⟨i, A', c', hi, rfl, rfl, hO, hL2, hsz, hbl, hB⟩ := hrel
    have HO := Lib.hid hO
    have HL := Lib.hid hL2
    have HB := Lib.hid hB
    have HG := Lib.hid hbl
    clear hO hL2 hB hbl
    by_cases hlt : i < L.length
    · obtain ⟨m, hm⟩ : ∃ m, L[i]? = some m := ⟨_, List.getElem?_eq_getElem hlt⟩
      have m10 := LB.out i m hm
      obtain ⟨b, off, rfl, ci⟩ := HL.out.ints.get (nI_at hm)
      have hd := decide_eq_true (show (i : Int) < (L.length : Int) by omega)
      have GE := Lib.hid (gr1_end ND.out hm)
      have TK := Lib.hid (show (L.take (i + 1)).filter (fun m => L.all fun o => decide (o = m) || decide (ldf m o ≠ 0)) = (L.take i).filter (fun m => L.all fun o => decide (o = m) || decide (ldf m o ≠ 0)) ++ (if L.all (fun o => decide (o = m) || decide (ldf m o ≠ 0)) then [m] else []) by
        rw [take_snoc' hm, List.filter_append]
        congr 1
        simp only [List.filter_cons, List.filter_nil])
      have lle : ((L.take i).filter fun m => L.all fun o => decide (o = m) || decide (ldf m o ≠ 0)).length ≤ 1024 := by
        refine Nat.le_trans (List.length_filter_le _ _) ?_
        rw [List.length_take]; omega
      obtain ⟨Q, hQ⟩ : ∃ q, (L.take i).filter (fun m => L.all fun o => decide (o = m) || decide (ldf m o ≠ 0)) = q := ⟨_, rfl⟩
      rw [hQ] at HO TK lle ⊢
      clear hQ
      have j0 : (0 : Int) ≤ (i : Int) := by omega
      have j1 : (i : Int) < (L.length : Int) := by omega
      go_wp2_with fail
      go_loopw [6, 7] (fun gr t wq => ∃ k : Nat, k ≤ L.length ∧ t = .int .i64 k ∧ gr = .bool (gr1 L i m k) ∧ Below wr.heap.size wr wq) (fun _ t _ => L.length - (intOf t).toNat)
      case atStart => exact ⟨0, Nat.zero_le _, rfl, rfl, Below.refl _ _⟩
      case round =>
        obtain ⟨k, hk, rfl, rfl, hb3⟩ := hrel
        have B3 := Lib.hid hb3
        clear hb3
        by_cases hlt2 : k < L.length
        · obtain ⟨o, ho⟩ : ∃ o, L[k]? = some o := ⟨_, List.getElem?_eq_getElem hlt2⟩
          have o10 := LB.out k o ho
          have L3 := HL.out.below B3.out
          obtain ⟨b', off', e', ck⟩ := L3.ints.get (nI_at ho)
          obtain ⟨rfl, rfl⟩ : b' = b ∧ off' = off := by injection e' with e'; injection e' with e1 e2; exact ⟨e1.symm, e2.symm⟩
          obtain ⟨b2', off2', e2', ci2⟩ := L3.ints.get (nI_at hm)
          obtain ⟨rfl, rfl⟩ : b2' = b' ∧ off2' = off' := by injection e2' with e'; injection e' with e1 e2; exact ⟨e1.symm, e2.symm⟩
          have GS := gr1_succ (i := i) (m := m) ho
          have han := i64_andNot m o (by omega) (by omega)
          have hq := int_eq0 (ldf m o)
          have hne : (((ldf m o : Nat) : Int) != 0) = decide (ldf m o ≠ 0) := by by_cases e : ldf m o = 0 <;> simp [e]
          have hki := int_eqn k i
          have hd2 := decide_eq_true (show (k : Int) < (L.length : Int) by omega)
          have j2 : (0 : Int) ≤ (k : Int) := by omega
          have j3 : (k : Int) < (L.length : Int) := by omega
          obtain ⟨R, hR⟩ : ∃ r, ldf m o = r := ⟨_, rfl⟩
          obtain ⟨G, hG⟩ : ∃ r, gr1 L i m k = r := ⟨_, rfl⟩
          rw [hR] at han hne GS
          rw [hG] at GS ⊢
          clear hR hG L3 e' e2' hq ci
          have ES := Lib.hid GS
          clear GS
          cases G
          · go_wp2_with fail
            go_quiet (fail)
            go_wp2_with fail
            go_roundw
            case rel => exact ⟨k + 1, by omega, by go_num, by rw [ES.out]; rfl, below_drewN B3.out _⟩
            case measure => simp [intOf]; omega
          · by_cases e : k = i
            · have E2 := Lib.hid (show gr1 L i m (k + 1) = true by rw [ES.out]; simp [e])
              rw [decide_eq_true e] at hki
              clear e ES
              go_wp2_with fail
              go_quiet (fail)
              go_wp2_with fail
              go_roundw
              case rel => exact ⟨k + 1, by omega, by go_num, by rw [E2.out], below_drewN B3.out _⟩
              case measure => simp [intOf]; omega
            · have E2 := Lib.hid (show gr1 L i m (k + 1) = decide (R ≠ 0) by rw [ES.out]; simp [e])
              rw [decide_eq_false e] at hki
              clear e ES
              go_wp2_with fail
              go_quiet (fail)
              go_wp2_with fail
              go_roundw
              case rel => exact ⟨k + 1, by omega, by go_num, by rw [E2.out]; first | rfl | simp, below_drewN B3.out _⟩
              case measure => simp [intOf]; omega
        · obtain rfl : k = L.length := by omega
          have hd2 := decide_eq_false (show ¬ (L.length : Int) < (L.length : Int) by omega)
          rw [GE.out]
          have HO2 := Lib.hid (HO.out.below B3.out)
          have HL2 := Lib.hid (HL.out.below B3.out)
          have B4 := Lib.hid (bel_trans HB.out B3.out)
          have hs4 := B3.out.size
          have ci2 : wr.cell? ⟨b, off + i, none⟩ = some (.int .i64 m) := by
            obtain ⟨b', off', e', ck⟩ := HL2.out.ints.get (nI_at hm)
            obtain ⟨rfl, rfl⟩ : b' = b ∧ off' = off := by injection e' with e'; injection e' with e1 e2; exact ⟨e1.symm, e2.symm⟩
            exact ck
          have nl := nI_len Q
          cases hg : L.all fun o => decide (o = m) || decide (ldf m o ≠ 0)
          · rw [hg] at TK
            have E := Lib.hid (show (L.take (i + 1)).filter (fun m => L.all fun o => decide (o = m) || decide (ldf m o ≠ 0)) = Q by rw [TK.out]; simp)
            clear hg ci
            go_wp2_with fail
            go_roundw
            case rel => exact ⟨i + 1, A', c', by omega, by go_num, by rw [E.out], by rw [E.out]; exact HO2.out, HL2.out, by omega, HG.out, B4.out⟩
            case measure => simp [intOf]; omega
          · rw [hg] at TK
            have E := Lib.hid (show nI ((L.take (i + 1)).filter (fun m => L.all fun o => decide (o = m) || decide (ldf m o ≠ 0))) = nI Q ++ [(m : Int)] by rw [TK.out]; simp [nI])
            clear hg ci
            go_wp2_with (at_builtin; refine app_int_at wr rfl _ _ rfl w1.heap.size A' (nI Q).length c' (nI Q) rfl HO2.out (m : Int) (by omega) (by omega) rfl (by omega) (by omega) ?_; intro A7 c7 w7 p1 p2 p3; have P1 := Lib.hid p1; have HL7 := Lib.hid (HL2.out.kept_old HO2.out HG.out p2); have B7 := Lib.hid (B4.out.grown p2 (by omega) (fun x hx => by have := (HO2.out.block x hx).1; omega)); have s7 := p2.size; clear p1 p2 p3)
            go_roundw
            case rel => exact ⟨i + 1, A7, c7, by omega, by go_num, by rw [E.out]; simp [nI_len], by rw [E.out]; simpa [nI_len] using P1.out, HL7.out, by omega, HG.out, B7.out⟩
            case measure => simp [intOf]; omega
    · obtain rfl : i = L.length := by omega
      have hd := decide_eq_false (show ¬ (L.length : Int) < (L.length : Int) by omega)
      rw [List.take_length, EN.out] at HO
      rw [List.take_length, EN.out]
      go_wp2_with fail
      go_ret
      exact ⟨A', c', rfl, HO.out.mono (by omega), HB.out⟩
end Go.Proofs.Yteejfjgofpolkaa
