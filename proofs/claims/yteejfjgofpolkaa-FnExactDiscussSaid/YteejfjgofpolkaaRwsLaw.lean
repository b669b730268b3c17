/- The laws' helpers on slices of slices of int64: size, copy, compare, mark, held. -/
import Derived.Test.YteejfjgofpolkaaRws
import Derived.Test.YteejfjgofpolkaaMark
namespace Go.Proofs.Yteejfjgofpolkaa
set_option linter.unusedVariables false
open Go.RowKit
/-- How many integers the rows have. -/
def totL (zss : List (List Int)) : Nat := (zss.map List.length).sum
theorem totL_snoc (zss : List (List Int)) (zs : List Int) : totL (zss ++ [zs]) = totL zss + zs.length := by simp [totL]
theorem totL_le {zss : List (List Int)} {b : Nat} (h : ∀ zs ∈ zss, zs.length ≤ b) : totL zss ≤ b * zss.length := by
  unfold totL
  induction zss with
  | nil => simp
  | cons y t ih =>
    have h1 := h y (List.mem_cons_self ..)
    have h2 := ih fun z hz => h z (List.mem_cons_of_mem _ hz)
    simp only [List.map_cons, List.sum_cons, List.length_cons, Nat.mul_add, Nat.mul_one]
    omega
theorem len_le_tot {zss : List (List Int)} {zs : List Int} (h : zs ∈ zss) : zs.length ≤ totL zss := by
  unfold totL
  induction zss with
  | nil => cases h
  | cons y t ih =>
    simp only [List.map_cons, List.sum_cons]
    rcases List.mem_cons.1 h with rfl | h
    · omega
    · have := ih h; omega
def szJ (n : Nat) (left : Int) : Int := if left - n < 0 then -1 else left - n
theorem szJ_any (A : Option Addr) (n c : Nat) (left : Int) (w : World) (hn : n ≤ 9223372036854775807) (h0 : 0 ≤ left) (h1 : left ≤ 1048576) :
    Calls Try.prog 63 #[.slice A n c, .int .i64 left] w fun e w' => e = .returned (.int .i64 (szJ n left)) ∧ w = w' := by
  by_cases h : left - n < 0
  · have R : Hid (szJ n left = -1) := by show _ = _; simp [szJ, h]
    go_enter Try.func63, Try.ntmps63
    go_wp2_with fail
    go_ret
    exact ⟨ret_int R.out.symm, rfl⟩
  · have R : Hid (szJ n left = left - n) := by show _ = _; simp [szJ, h]
    go_enter Try.func63, Try.ntmps63
    go_wp2_with fail
    go_ret
    exact ⟨ret_int R.out.symm, rfl⟩
/-- The rows are too many, or so many are left. -/
def SzM (n : Nat) (zss : List (List Int)) (left r : Int) : Prop := r = -1 ∨ (0 ≤ r ∧ r ≤ left ∧ (n : Int) ≤ left ∧ (totL zss : Int) ≤ left)
theorem szInt64SS_any (A : Option Addr) (n c : Nat) (zss : List (List Int)) (left : Int) (w : World) (h : Rws w A n c zss) (h0 : 0 ≤ left) (h1 : left ≤ 1048576) :
    Calls Try.prog 62 #[.slice A n c, .int .i64 left] w fun e w' => ∃ r, e = .returned (.int .i64 r) ∧ SzM n zss left r ∧ w = w' := by
  have hm := h.short
  have hl := Lib.hid h.1
  by_cases hs : left - n < 0
  · go_enter Try.func62, Try.ntmps62
    go_wp2_with fail
    go_ret
    exact ⟨-1, rfl, .inl rfl, rfl⟩
  · go_enter Try.func62, Try.ntmps62
    go_wp2_with fail
    go_loop [1, 5] (fun r i => ∃ (j : Nat) (l : Int), j ≤ n ∧ i = .int .i64 j ∧ r = .int .i64 l ∧ 0 ≤ l ∧ l + totL (zss.take j) = left - n) (fun _ i => n - (intOf i).toNat)
    case atStart => exact ⟨0, _, Nat.zero_le _, rfl, rfl, by omega, by simp [totL]⟩
    case round =>
      obtain ⟨j, l, hj, rfl, rfl, hl0, hl1⟩ := hrel
      have HL := Lib.hid hl1
      have hll : l ≤ left := by omega
      clear hl1
      by_cases hlt : j < n
      · obtain ⟨b, off, A', m, c', zs, rfl, hb, hcell, hi, hz⟩ := h.at hlt
        have hms := hi.short
        have hzl := Lib.hid hi.1
        clear hi
        go_wp2_with fail
        refine (szJ_any A' m c' l _ hms hl0 (by omega)).mono ?_
        rintro e w1 ⟨rfl, rfl⟩
        by_cases hr : l - m < 0
        · have R : Hid (szJ m l = -1) := by show _ = _; simp [szJ, hr]
          rw [R.out]
          go_wp2_with fail
          go_ret
          exact ⟨-1, rfl, .inl rfl, rfl⟩
        · have R : Hid (szJ m l = l - m) := by show _ = _; simp [szJ, hr]
          rw [R.out]
          go_wp2_with fail
          go_round
          case rel => exact ⟨j + 1, l - m, by omega, by go_num, rfl, by omega, by have := HL.out; rw [take_snoc' hz.out, totL_snoc, hzl.out]; omega⟩
          case measure => simp [intOf]; omega
      · obtain rfl : n = j := by omega
        go_wp2_with fail
        go_ret
        refine ⟨l, rfl, .inr ⟨hl0, by omega, by omega, ?_⟩, rfl⟩
        have := HL.out
        rw [List.take_of_length_le (by rw [hl.out]; omega)] at this
        omega
def MadeM (zss : List (List Int)) (w : World) (e : Ending) (w' : World) : Prop :=
  ∃ A c vs, e = .returned (.slice A zss.length c) ∧ OwnM w' w.heap.size A zss.length c vs zss ∧ Below w.heap.size w w'
theorem ownM_made (w : World) (n : Nat) (hn : n ≤ 1048576) : OwnM (w.alloc (.cells (madeCells #[.slice none 0 0] n) 28)) w.heap.size (some ⟨w.heap.size, 0, none⟩) n n (List.replicate n (.slice none 0 0)) (List.replicate n []) := by
  refine ⟨?_, by simp, fun j zs hz => ?_, ?_⟩
  · have := World.ownsRow_lit (base := w.heap.size) (e := 28) (size := 1) w (madeCells #[.slice none 0 0] n) n (Nat.le_refl _) (by unfold maxLen; omega) (by simp [size_madeCells])
    rwa [toList_madeCells_one] at this
  · obtain ⟨hl, e⟩ := List.getElem?_eq_some_iff.1 hz
    simp at e
    subst e
    refine ⟨none, 0, ?_, ownI_nil _ _⟩
    simp at hl
    rw [List.getElem?_replicate, if_pos hl]
    rfl
  · rw [List.pairwise_replicate]
    exact .inr (.inl rfl)
theorem toInt64SS_any (A : Option Addr) (n c : Nat) (zss : List (List Int)) (w : World) (h : Rws w A n c zss) (hn : n ≤ 1048576) (hr : ∀ zs ∈ zss, zs.length ≤ 1048576) :
    Calls Try.prog 68 #[.slice A n c] w (MadeM zss w) := by
  have hl := Lib.hid h.1
  have HR := Lib.hid hr
  have hmk := fun W => run_make_row' (P := Try.prog) 24 28 (.slice none 0 0) 24 Try.underlying24 info_row rfl .i64 .i64 n (by omega) (by omega) W
  clear hr
  go_enter Try.func68, Try.ntmps68
  go_wp2
  go_loopw [4] (fun i wr => ∃ (k : Nat) (vs : List Value), k ≤ n ∧ i = .int .i64 k ∧ OwnM wr w.heap.size (some ⟨w.heap.size, 0, none⟩) n n vs (zss.take k ++ List.replicate (n - k) []) ∧ Below w.heap.size w wr) (fun i _ => n - (intOf i).toNat)
  case atStart => exact ⟨0, _, Nat.zero_le _, rfl, by simpa using ownM_made w n hn, bel_alloc _ _⟩
  case round =>
    obtain ⟨k, vs, hk, rfl, hown, hbel⟩ := hrel
    have HO := Lib.hid hown
    clear hown
    by_cases hlt : k < n
    · obtain ⟨b, off, A', m, c', zs, rfl, hb, hcell, hi, hz⟩ := (h.below hbel).at hlt
      have hzl := hi.1
      have hm' : m ≤ 1048576 := by have := HR.out zs (mem_of_at hz.out); omega
      go_wp2_with fail
      refine (toInt64S_any A' m c' zs wr hi hm').mono ?_
      rintro e w1 ⟨A1, c1, rfl, ho1, hb1⟩
      subst hzl
      have HO1 := Lib.hid (HO.out.below hb1)
      have bel1 := bel_trans hbel hb1
      have ap : ∀ v ∈ vs, Apart v (.slice A1 zs.length c1) := apart_new (base := 0) (fun v hv g hg => (HO.out.blocks v hv g hg).2) ho1
      have hs0 := hbel.size
      have ST := Lib.hid (HO1.out.set (j := k) hlt (ho1.mono hs0) ap)
      have hvl := HO1.out.vlen
      obtain ⟨u, hu⟩ : ∃ u, w1.cell? ⟨w.heap.size, k, none⟩ = some u := by
        rw [HO1.out.outer.cellAt k (by omega)]
        exact ⟨_, List.getElem?_eq_getElem (by omega)⟩
      have hfr : w1.frozen? ⟨w.heap.size, k, none⟩ = false := HO1.out.outer.frozenAt k
      clear ap hvl ho1
      go_wp2_with fail
      go_roundw
      case rel =>
        refine ⟨k + 1, vs.set k (.slice A1 zs.length c1), by omega, by go_num, ?_, bel1.setCell (Nat.le_refl _) _⟩
        have := ST.out.1
        rw [take_snoc' hz.out]
        have hlen : (zss.take k).length = k := by rw [List.length_take, hl.out]; omega
        rw [List.set_append_right _ _ (by omega), hlen, Nat.sub_self] at this
        obtain ⟨r, hr⟩ : ∃ r, n - k = r + 1 := ⟨n - k - 1, by omega⟩
        rw [hr, List.replicate_succ, List.set_cons_zero] at this
        rw [show n - (k + 1) = r by omega]
        simpa using this
      case measure => simp [intOf]; omega
    · obtain rfl : n = k := by omega
      go_wp2_with fail
      go_ret
      refine ⟨some ⟨w.heap.size, 0, none⟩, n, vs, by rw [hl.out]; rfl, ?_, hbel⟩
      have := HO.out
      rw [List.take_of_length_le (by rw [hl.out]; omega), Nat.sub_self] at this
      rw [hl.out]; simpa using this
theorem quiet_more' {P : Program} {f : FuncId} {args : Array Value} {w : World} {n : Nat} {v : Value}
    (h : Calls P f args (w.drewN n) fun e w' => e = .returned v ∧ ∃ m, w' = (w.drewN n).drewN m) : Calls P f args (w.drewN n) fun e w'' => e = .returned v ∧ ∃ m, w'' = w.drewN m :=
  h.mono fun _ _ ⟨he, m, hm⟩ => ⟨he, n + m, by rw [hm, World.drewN_drewN]⟩
theorem Ints.drew {w : World} {A : Option Addr} {n c : Nat} {zs : List Int} (h : Ints .i64 w A n c zs) (m : Nat) : Ints .i64 (w.drewN m) A n c zs := h.below ⟨rfl, rfl, rfl, Nat.le_refl _, fun _ _ => rfl⟩
theorem eqInt64S_dr (A : Option Addr) (n c : Nat) (zs : List Int) (B : Option Addr) (m d : Nat) (ys : List Int) (w : World) (h : Ints .i64 w A n c zs) (k : Ints .i64 w B m d ys) :
    Calls Try.prog 23 #[.slice A n c, .slice B m d] w fun e w' => e = .returned (.bool (decide (zs = ys))) ∧ ∃ q, w' = w.drewN q := by
  have hm := h.short
  have hl := Lib.hid h.1
  have kl := Lib.hid k.1
  by_cases hne : n = m
  · subst hne
    go_enter Try.func23, Try.ntmps23
    go_wp2
    go_loopw [5] (fun i wr => ∃ (j q : Nat), j ≤ n ∧ i = .int .i64 j ∧ zs.take j = ys.take j ∧ wr = w.drewN q) (fun i _ => n - (intOf i).toNat)
    case atStart => exact ⟨0, 0, Nat.zero_le _, rfl, by simp, rfl⟩
    case round =>
      obtain ⟨j, q, hj, rfl, hall, rfl⟩ := hrel
      have H := Lib.hid hall
      clear hall
      by_cases hlt : j < n
      · obtain ⟨b, off, z, rfl, hb, hcell, hz1, hz2, hz⟩ := h.at hlt
        obtain ⟨b', off', y, rfl, hb', hcell', hy1, hy2, hy⟩ := k.at hlt
        cases hzy : (z == y)
        · have hzy' : (z != y) = true := by simp [bne, hzy]
          go_wp2
          go_quiet (fail)
          go_wp2
          go_ret
          refine ⟨ret_bool ?_, _, by first | rfl | rw [World.drewN_drewN]⟩
          symm
          simp only [decide_eq_false_iff_not]
          rintro rfl
          have e1 := hz.out
          rw [hy.out] at e1
          simp at e1 hzy
          exact hzy e1.symm
        · have hzy' : (z != y) = false := by simp [bne, hzy]
          go_wp2
          go_quiet (fail)
          go_wp2
          go_roundw
          case rel =>
            refine ⟨j + 1, _, by omega, by go_num, ?_, by first | rfl | rw [World.drewN_drewN]⟩
            rw [take_snoc' hz.out, take_snoc' hy.out, H.out]
            simp at hzy
            rw [hzy]
          case measure => simp [intOf]; omega
      · go_wp2
        go_ret
        refine ⟨ret_bool ?_, _, by first | rfl | rw [World.drewN_drewN]⟩
        symm
        have := H.out
        rw [List.take_of_length_le (by rw [hl.out]; omega), List.take_of_length_le (by rw [kl.out]; omega)] at this
        simpa using this
  · have hne2 : ((n : Int) != (m : Int)) = true := by simp; omega
    go_enter Try.func23, Try.ntmps23
    go_wp2
    go_ret
    refine ⟨ret_bool ?_, 0, rfl⟩
    symm
    simp only [decide_eq_false_iff_not]
    rintro rfl
    exact hne (hl.out.symm.trans kl.out)
theorem eqInt64SS_same (A : Option Addr) (n c : Nat) (zss : List (List Int)) (B : Option Addr) (d : Nat) (w : World) (h : Rws w A n c zss) (k : Rws w B n d zss) :
    Calls Try.prog 70 #[.slice A n c, .slice B n d] w fun e w' => e = .returned (.bool true) ∧ Below w.heap.size w w' := by
  have hm := h.short
  go_enter Try.func70, Try.ntmps70
  go_wp2_with fail
  go_loopw [5] (fun i wr => ∃ (j : Nat), j ≤ n ∧ i = .int .i64 j ∧ Below w.heap.size w wr) (fun i _ => n - (intOf i).toNat)
  case atStart => exact ⟨0, Nat.zero_le _, rfl, Below.refl _ _⟩
  case round =>
    obtain ⟨j, hj, rfl, hbel⟩ := hrel
    by_cases hlt : j < n
    · obtain ⟨b, off, A', m, c', zs, rfl, hb, hcell, hi, hz⟩ := (h.below hbel).at hlt
      obtain ⟨b', off', B', m', d', ys, rfl, hb', hcell', ki, hy⟩ := (k.below hbel).at hlt
      obtain rfl : zs = ys := by have := hy.out; rw [hz.out] at this; simpa using this
      have EQ := Lib.hid (fun q' => eqInt64S_dr A' m c' zs B' m' d' zs (wr.drewN q') (hi.drew q') (ki.drew q'))
      rw [show decide (zs = zs) = true by simp] at EQ
      clear hi ki
      go_wp2_with fail
      go_quiet ((exact quiet_more' (EQ.out _)))
      go_wp2_with fail
      go_roundw
      case rel => exact ⟨j + 1, by omega, by go_num, below_drewN hbel _⟩
      case measure => simp [intOf]; omega
    · go_wp2_with fail
      go_ret
      exact ⟨rfl, hbel⟩
/-- Rows of numbers one behind another. -/
def iotas : Int → List (List Int) → List (List Int)
  | _, [] => []
  | k, zs :: t => iota k zs.length :: iotas (k + zs.length) t
theorem iotas_length (zss : List (List Int)) : ∀ k, (iotas k zss).length = zss.length := by
  induction zss with
  | nil => intro k; rfl
  | cons z t ih => intro k; simp [iotas, ih]
theorem iotas_at {zss : List (List Int)} : ∀ {k : Int} {j : Nat} {zs : List Int}, zss[j]? = some zs → (iotas k zss)[j]? = some (iota (k + totL (zss.take j)) zs.length) := by
  induction zss with
  | nil => intro k j zs h; simp at h
  | cons z t ih =>
    intro k j zs h
    cases j with
    | zero => simp at h; subst h; simp [iotas, totL]
    | succ j =>
      simp at h
      simp only [iotas, List.getElem?_cons_succ, List.take_succ_cons]
      rw [ih h]
      simp only [totL, List.map_cons, List.sum_cons, Int.natCast_add, Int.add_assoc]
theorem iotas_take (zss : List (List Int)) (k : Int) {j : Nat} {zs : List Int} (h : zss[j]? = some zs) :
    ((iotas k zss).take j ++ zss.drop j).set j (iota (k + totL (zss.take j)) zs.length) = (iotas k zss).take (j + 1) ++ zss.drop (j + 1) := by
  have hl := (List.getElem?_eq_some_iff.1 h).1
  have h1 : ((iotas k zss).take j).length = j := by rw [List.length_take, iotas_length]; omega
  rw [take_snoc' (iotas_at h), List.set_append_right _ _ (by omega), h1, Nat.sub_self, List.drop_eq_getElem_cons hl, List.set_cons_zero]
  simp
theorem iotas_rlen {zss : List (List Int)} {k : Int} {j : Nat} {ys : List Int} (h : (iotas k zss)[j]? = some ys) : ∃ zs, zss[j]? = some zs ∧ ys.length = zs.length := by
  have hl := (List.getElem?_eq_some_iff.1 h).1
  rw [iotas_length] at hl
  refine ⟨_, List.getElem?_eq_getElem hl, ?_⟩
  rw [iotas_at (List.getElem?_eq_getElem hl)] at h
  injection h with h
  rw [← h, iota_length]
/-- What is no row's block is as it was. -/
def Besides (vs : List Value) (w w' : World) : Prop := ∀ k, k < w.heap.size → (∀ v ∈ vs, v.ownBlock ≠ some k) → w'.heap[k]? = w.heap[k]?
theorem markInt64SS_any (lo hi : Nat) (A : Option Addr) (n c : Nat) (vs : List Value) (zss : List (List Int)) (k : Int) (w : World) (h : MR lo hi w A n c vs zss) (h0 : 0 ≤ k) (h1 : k ≤ 1048576000) (ht : totL zss ≤ 1048576000) (hn : n ≤ 1048576000) :
    Calls Try.prog 71 #[.slice A n c, .int .i64 k] w fun e w' => e = .returned (.int .i64 (k + totL zss)) ∧ MR lo hi w' A n c vs (iotas k zss) ∧ Only lo hi w w' ∧ Besides vs w w' := by
  have hl := Lib.hid h.own.len
  have HV := Lib.hid h.top
  have HR := Lib.hid h.rows
  have PB : ∀ j, totL (zss.take j) ≤ 1048576000 := fun j => by
    have : totL zss = totL (zss.take j) + totL (zss.drop j) := by
      unfold totL
      rw [← List.sum_append, ← List.map_append, List.take_append_drop]
    omega
  have PH := Lib.hid PB
  have RB := Lib.hid (fun zs (hz : zs ∈ zss) => Nat.le_trans (len_le_tot hz) ht)
  clear PB
  go_enter Try.func71, Try.ntmps71
  go_wp2_with fail
  go_loopw [1, 5] (fun kk i wr => ∃ j : Nat, j ≤ n ∧ i = .int .i64 j ∧ kk = .int .i64 (k + totL (zss.take j)) ∧ OwnM wr lo A n c vs ((iotas k zss).take j ++ zss.drop j) ∧ Only lo hi w wr ∧ Besides vs w wr) (fun _ i _ => n - (intOf i).toNat)
  case atStart => exact ⟨0, Nat.zero_le _, rfl, by simp [totL], by simpa using h.own, Only.refl _ _ _, fun _ _ _ => rfl⟩
  case round =>
    obtain ⟨j, hj, rfl, rfl, hown, hon, hbs⟩ := hrel
    have HB := Lib.hid hbs
    have HO := Lib.hid hown
    have HN := Lib.hid hon
    have pj := PH.out j
    obtain ⟨T, hT⟩ : ∃ T, totL (zss.take j) = T := ⟨_, rfl⟩
    rw [hT] at pj ⊢
    have HT := Lib.hid hT
    clear hown hon hT hbs
    by_cases hlt : j < n
    · obtain ⟨g, A', c', zs, rfl, hg1, hg2, hz, hcell, ho, hv⟩ := HO.out.at hlt
      have hzj : zss[j]? = some zs := by
        have := hz.out
        rw [List.getElem?_append_right (by rw [List.length_take, iotas_length, hl.out]; omega), List.length_take, iotas_length, hl.out, Nat.min_eq_left (by omega), Nat.sub_self] at this
        simpa using this
      have bz := RB.out zs (mem_of_at hzj)
      have HZ := Lib.hid hzj
      clear hzj
      go_wp2_with fail
      refine (markInt64S_any lo A' zs.length c' zs (k + T) _ ho (by omega) (by omega) (by omega)).mono ?_
      rintro e w1 ⟨rfl, ho1, hg⟩
      have TU := Lib.hid (HO.out.turn hv.out ho1 ho hg)
      have ON := Lib.hid (HN.out.trans (Only.of_grown (lo := lo) (hi := hi) hg (fun x hx => ⟨(ho.block x hx).1, HR.out _ (List.mem_of_getElem? hv.out) x hx⟩)))
      have BS : Hid (Besides vs w w1) := fun k hk hv' => (hg.block k (Nat.lt_of_lt_of_le hk HN.out.size) (fun e => hv' _ (List.mem_of_getElem? hv.out) e.symm)).trans (HB.out k hk hv')
      clear ho ho1
      go_wp2_with fail
      go_roundw
      case rel =>
        refine ⟨j + 1, by omega, by go_num, ?_, ?_, ON.out, BS.out⟩
        · rw [take_snoc' HZ.out, totL_snoc, HT.out]
          congr 1
          omega
        · rw [← iotas_take zss k HZ.out, HT.out]
          exact TU.out
      case measure => simp [intOf]; omega
    · obtain rfl : n = j := by omega
      have HE : zss.take n = zss := List.take_of_length_le (by rw [hl.out]; omega)
      go_wp2_with fail
      go_ret
      refine ⟨by rw [← HT.out, HE]; rfl, ⟨?_, HV.out, HR.out⟩, HN.out, HB.out⟩
      have := HO.out
      rw [List.take_of_length_le (by rw [iotas_length, hl.out]; omega), List.drop_of_length_le (by rw [hl.out]; omega), List.append_nil] at this
      exact this
end Go.Proofs.Yteejfjgofpolkaa
