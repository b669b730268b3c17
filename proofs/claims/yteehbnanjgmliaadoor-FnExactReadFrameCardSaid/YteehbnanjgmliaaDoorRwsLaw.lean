/- The laws' helpers on slices of slices of int64: size, copy, compare, mark, held. -/
import Derived.Test.YteehbnanjgmliaaDoorRws
import Derived.Test.YteehbnanjgmliaaDoorMark
namespace Go.Proofs.YteehbnanjgmliaaDoor
set_option linter.unusedVariables false
open Go.RowKit
/-- How many integers the rows have. -/
def totL (zss : List (List Int)) : Nat := (zss.map List.length).sum
theorem totL_snoc (zss : List (List Int)) (zs : List Int) : totL (zss ++ [zs]) = totL zss + zs.length := by simp [totL]
theorem totL_le {zss : List (List Int)} {b : Nat} (h : ∀ zs ∈ zss, zs.length ≤ b) : totL zss ≤ b * zss.length := by
  unfold totL
  induction zss with
  | nil => simp
  | cons y t ih =>
    have h1 := h y (List.mem_cons_self ..)
    have h2 := ih fun z hz => h z (List.mem_cons_of_mem _ hz)
    simp only [List.map_cons, List.sum_cons, List.length_cons, Nat.mul_add, Nat.mul_one]
    omega
theorem len_le_tot {zss : List (List Int)} {zs : List Int} (h : zs ∈ zss) : zs.length ≤ totL zss := by
  unfold totL
  induction zss with
  | nil => cases h
  | cons y t ih =>
    simp only [List.map_cons, List.sum_cons]
    rcases List.mem_cons.1 h with rfl | h
    · omega
    · have := ih h; omega
theorem quiet_more' {P : Program} {f : FuncId} {args : Array Value} {w : World} {n : Nat} {v : Value}
    (h : Calls P f args (w.drewN n) fun e w' => e = .returned v ∧ ∃ m, w' = (w.drewN n).drewN m) : Calls P f args (w.drewN n) fun e w'' => e = .returned v ∧ ∃ m, w'' = w.drewN m :=
  h.mono fun _ _ ⟨he, m, hm⟩ => ⟨he, n + m, by rw [hm, World.drewN_drewN]⟩
theorem Ints.drew {w : World} {A : Option Addr} {n c : Nat} {zs : List Int} (h : Ints .i64 w A n c zs) (m : Nat) : Ints .i64 (w.drewN m) A n c zs := h.below ⟨rfl, rfl, rfl, Nat.le_refl _, fun _ _ => rfl⟩
theorem eqInt64S_dr (A : Option Addr) (n c : Nat) (zs : List Int) (B : Option Addr) (m d : Nat) (ys : List Int) (w : World) (h : Ints .i64 w A n c zs) (k : Ints .i64 w B m d ys) :
    Calls Tryd.prog 26 #[.slice A n c, .slice B m d] w fun e w' => e = .returned (.bool (decide (zs = ys))) ∧ ∃ q, w' = w.drewN q := by
  have hm := h.short
  have hl := Lib.hid h.1
  have kl := Lib.hid k.1
  by_cases hne : n = m
  · subst hne
    go_enter Tryd.func26, Tryd.ntmps26
    go_wp2
    go_loopw [5] (fun i wr => ∃ (j q : Nat), j ≤ n ∧ i = .int .i64 j ∧ zs.take j = ys.take j ∧ wr = w.drewN q) (fun i _ => n - (intOf i).toNat)
    case atStart => exact ⟨0, 0, Nat.zero_le _, rfl, by simp, rfl⟩
    case round =>
      obtain ⟨j, q, hj, rfl, hall, rfl⟩ := hrel
      have H := Lib.hid hall
      clear hall
      by_cases hlt : j < n
      · obtain ⟨b, off, z, rfl, hb, hcell, hz1, hz2, hz⟩ := h.at hlt
        obtain ⟨b', off', y, rfl, hb', hcell', hy1, hy2, hy⟩ := k.at hlt
        cases hzy : (z == y)
        · have hzy' : (z != y) = true := by simp [bne, hzy]
          go_wp2
          go_quiet (fail)
          go_wp2
          go_ret
          refine ⟨ret_bool ?_, _, by first | rfl | rw [World.drewN_drewN]⟩
          symm
          simp only [decide_eq_false_iff_not]
          rintro rfl
          have e1 := hz.out
          rw [hy.out] at e1
          simp at e1 hzy
          exact hzy e1.symm
        · have hzy' : (z != y) = false := by simp [bne, hzy]
          go_wp2
          go_quiet (fail)
          go_wp2
          go_roundw
          case rel =>
            refine ⟨j + 1, _, by omega, by go_num, ?_, by first | rfl | rw [World.drewN_drewN]⟩
            rw [take_snoc' hz.out, take_snoc' hy.out, H.out]
            simp at hzy
            rw [hzy]
          case measure => simp [intOf]; omega
      · go_wp2
        go_ret
        refine ⟨ret_bool ?_, _, by first | rfl | rw [World.drewN_drewN]⟩
        symm
        have := H.out
        rw [List.take_of_length_le (by rw [hl.out]; omega), List.take_of_length_le (by rw [kl.out]; omega)] at this
        simpa using this
  · have hne2 : ((n : Int) != (m : Int)) = true := by simp; omega
    go_enter Tryd.func26, Tryd.ntmps26
    go_wp2
    go_ret
    refine ⟨ret_bool ?_, 0, rfl⟩
    symm
    simp only [decide_eq_false_iff_not]
    rintro rfl
    exact hne (hl.out.symm.trans kl.out)
theorem eqInt64SS_same (A : Option Addr) (n c : Nat) (zss : List (List Int)) (B : Option Addr) (d : Nat) (w : World) (h : Rws w A n c zss) (k : Rws w B n d zss) :
    Calls Tryd.prog 15 #[.slice A n c, .slice B n d] w fun e w' => e = .returned (.bool true) ∧ Below w.heap.size w w' := by
  have hm := h.short
  go_enter Tryd.func15, Tryd.ntmps15
  go_wp2_with fail
  go_loopw [5] (fun i wr => ∃ (j : Nat), j ≤ n ∧ i = .int .i64 j ∧ Below w.heap.size w wr) (fun i _ => n - (intOf i).toNat)
  case atStart => exact ⟨0, Nat.zero_le _, rfl, Below.refl _ _⟩
  case round =>
    obtain ⟨j, hj, rfl, hbel⟩ := hrel
    by_cases hlt : j < n
    · obtain ⟨b, off, A', m, c', zs, rfl, hb, hcell, hi, hz⟩ := (h.below hbel).at hlt
      obtain ⟨b', off', B', m', d', ys, rfl, hb', hcell', ki, hy⟩ := (k.below hbel).at hlt
      obtain rfl : zs = ys := by have := hy.out; rw [hz.out] at this; simpa using this
      have EQ := Lib.hid (fun q' => eqInt64S_dr A' m c' zs B' m' d' zs (wr.drewN q') (hi.drew q') (ki.drew q'))
      rw [show decide (zs = zs) = true by simp] at EQ
      clear hi ki
      go_wp2_with fail
      go_quiet ((exact quiet_more' (EQ.out _)))
      go_wp2_with fail
      go_roundw
      case rel => exact ⟨j + 1, by omega, by go_num, below_drewN hbel _⟩
      case measure => simp [intOf]; omega
    · go_wp2_with fail
      go_ret
      exact ⟨rfl, hbel⟩
/-- Rows of numbers one behind another. -/
def iotas : Int → List (List Int) → List (List Int)
  | _, [] => []
  | k, zs :: t => iota k zs.length :: iotas (k + zs.length) t
theorem iotas_length (zss : List (List Int)) : ∀ k, (iotas k zss).length = zss.length := by
  induction zss with
  | nil => intro k; rfl
  | cons z t ih => intro k; simp [iotas, ih]
theorem iotas_at {zss : List (List Int)} : ∀ {k : Int} {j : Nat} {zs : List Int}, zss[j]? = some zs → (iotas k zss)[j]? = some (iota (k + totL (zss.take j)) zs.length) := by
  induction zss with
  | nil => intro k j zs h; simp at h
  | cons z t ih =>
    intro k j zs h
    cases j with
    | zero => simp at h; subst h; simp [iotas, totL]
    | succ j =>
      simp at h
      simp only [iotas, List.getElem?_cons_succ, List.take_succ_cons]
      rw [ih h]
      simp only [totL, List.map_cons, List.sum_cons, Int.natCast_add, Int.add_assoc]
theorem iotas_take (zss : List (List Int)) (k : Int) {j : Nat} {zs : List Int} (h : zss[j]? = some zs) :
    ((iotas k zss).take j ++ zss.drop j).set j (iota (k + totL (zss.take j)) zs.length) = (iotas k zss).take (j + 1) ++ zss.drop (j + 1) := by
  have hl := (List.getElem?_eq_some_iff.1 h).1
  have h1 : ((iotas k zss).take j).length = j := by rw [List.length_take, iotas_length]; omega
  rw [take_snoc' (iotas_at h), List.set_append_right _ _ (by omega), h1, Nat.sub_self, List.drop_eq_getElem_cons hl, List.set_cons_zero]
  simp
theorem iotas_rlen {zss : List (List Int)} {k : Int} {j : Nat} {ys : List Int} (h : (iotas k zss)[j]? = some ys) : ∃ zs, zss[j]? = some zs ∧ ys.length = zs.length := by
  have hl := (List.getElem?_eq_some_iff.1 h).1
  rw [iotas_length] at hl
  refine ⟨_, List.getElem?_eq_getElem hl, ?_⟩
  rw [iotas_at (List.getElem?_eq_getElem hl)] at h
  injection h with h
  rw [← h, iota_length]
/-- What is no row's block is as it was. -/
def Besides (vs : List Value) (w w' : World) : Prop := ∀ k, k < w.heap.size → (∀ v ∈ vs, v.ownBlock ≠ some k) → w'.heap[k]? = w.heap[k]?
theorem markInt64SS_any (lo hi : Nat) (A : Option Addr) (n c : Nat) (vs : List Value) (zss : List (List Int)) (k : Int) (w : World) (h : MR lo hi w A n c vs zss) (h0 : 0 ≤ k) (h1 : k ≤ 1048576000) (ht : totL zss ≤ 1048576000) (hn : n ≤ 1048576000) :
    Calls Tryd.prog 16 #[.slice A n c, .int .i64 k] w fun e w' => e = .returned (.int .i64 (k + totL zss)) ∧ MR lo hi w' A n c vs (iotas k zss) ∧ Only lo hi w w' ∧ Besides vs w w' := by
  have hl := Lib.hid h.own.len
  have HV := Lib.hid h.top
  have HR := Lib.hid h.rows
  have PB : ∀ j, totL (zss.take j) ≤ 1048576000 := fun j => by
    have : totL zss = totL (zss.take j) + totL (zss.drop j) := by
      unfold totL
      rw [← List.sum_append, ← List.map_append, List.take_append_drop]
    omega
  have PH := Lib.hid PB
  have RB := Lib.hid (fun zs (hz : zs ∈ zss) => Nat.le_trans (len_le_tot hz) ht)
  clear PB
  go_enter Tryd.func16, Tryd.ntmps16
  go_wp2_with fail
  go_loopw [1, 5] (fun kk i wr => ∃ j : Nat, j ≤ n ∧ i = .int .i64 j ∧ kk = .int .i64 (k + totL (zss.take j)) ∧ OwnM wr lo A n c vs ((iotas k zss).take j ++ zss.drop j) ∧ Only lo hi w wr ∧ Besides vs w wr) (fun _ i _ => n - (intOf i).toNat)
  case atStart => exact ⟨0, Nat.zero_le _, rfl, by simp [totL], by simpa using h.own, Only.refl _ _ _, fun _ _ _ => rfl⟩
  case round =>
    obtain ⟨j, hj, rfl, rfl, hown, hon, hbs⟩ := hrel
    have HB := Lib.hid hbs
    have HO := Lib.hid hown
    have HN := Lib.hid hon
    have pj := PH.out j
    obtain ⟨T, hT⟩ : ∃ T, totL (zss.take j) = T := ⟨_, rfl⟩
    rw [hT] at pj ⊢
    have HT := Lib.hid hT
    clear hown hon hT hbs
    by_cases hlt : j < n
    · obtain ⟨g, A', c', zs, rfl, hg1, hg2, hz, hcell, ho, hv⟩ := HO.out.at hlt
      have hzj : zss[j]? = some zs := by
        have := hz.out
        rw [List.getElem?_append_right (by rw [List.length_take, iotas_length, hl.out]; omega), List.length_take, iotas_length, hl.out, Nat.min_eq_left (by omega), Nat.sub_self] at this
        simpa using this
      have bz := RB.out zs (mem_of_at hzj)
      have HZ := Lib.hid hzj
      clear hzj
      go_wp2_with fail
      refine (markInt64S_any lo A' zs.length c' zs (k + T) _ ho (by omega) (by omega) (by omega)).mono ?_
      rintro e w1 ⟨rfl, ho1, hg⟩
      have TU := Lib.hid (HO.out.turn hv.out ho1 ho hg)
      have ON := Lib.hid (HN.out.trans (Only.of_grown (lo := lo) (hi := hi) hg (fun x hx => ⟨(ho.block x hx).1, HR.out _ (List.mem_of_getElem? hv.out) x hx⟩)))
      have BS : Hid (Besides vs w w1) := fun k hk hv' => (hg.block k (Nat.lt_of_lt_of_le hk HN.out.size) (fun e => hv' _ (List.mem_of_getElem? hv.out) e.symm)).trans (HB.out k hk hv')
      clear ho ho1
      go_wp2_with fail
      go_roundw
      case rel =>
        refine ⟨j + 1, by omega, by go_num, ?_, ?_, ON.out, BS.out⟩
        · rw [take_snoc' HZ.out, totL_snoc, HT.out]
          congr 1
          omega
        · rw [← iotas_take zss k HZ.out, HT.out]
          exact TU.out
      case measure => simp [intOf]; omega
    · obtain rfl : n = j := by omega
      have HE : zss.take n = zss := List.take_of_length_le (by rw [hl.out]; omega)
      go_wp2_with fail
      go_ret
      refine ⟨by rw [← HT.out, HE]; rfl, ⟨?_, HV.out, HR.out⟩, HN.out, HB.out⟩
      have := HO.out
      rw [List.take_of_length_le (by rw [iotas_length, hl.out]; omega), List.drop_of_length_le (by rw [hl.out]; omega), List.append_nil] at this
      exact this
theorem heldInt64SS_any (A : Option Addr) (n c : Nat) (zss : List (List Int)) (k : Int) (w : World) (h : Rws w A n c (iotas k zss)) (h0 : 0 ≤ k) (h1 : k ≤ 1048576000) (ht : totL zss ≤ 1048576000) (hn : n ≤ 1048576000) :
    Calls Tryd.prog 17 #[.slice A n c, .int .i64 k] w fun e w' => e = .returned (.int .i64 (k + totL zss)) ∧ Below w.heap.size w w' := by
  have hl := Lib.hid (show zss.length = n by have := h.1; rwa [iotas_length] at this)
  have PB : ∀ j, totL (zss.take j) ≤ 1048576000 := fun j => by
    have : totL zss = totL (zss.take j) + totL (zss.drop j) := by
      unfold totL
      rw [← List.sum_append, ← List.map_append, List.take_append_drop]
    omega
  have PH := Lib.hid PB
  have RB := Lib.hid (fun zs (hz : zs ∈ zss) => Nat.le_trans (len_le_tot hz) ht)
  clear PB
  go_enter Tryd.func17, Tryd.ntmps17
  go_wp2_with fail
  go_loopw [1, 5] (fun kk i wr => ∃ j : Nat, j ≤ n ∧ i = .int .i64 j ∧ kk = .int .i64 (k + totL (zss.take j)) ∧ Below w.heap.size w wr) (fun _ i _ => n - (intOf i).toNat)
  case atStart => exact ⟨0, Nat.zero_le _, rfl, by simp [totL], Below.refl _ _⟩
  case round =>
    obtain ⟨j, hj, rfl, rfl, hbel⟩ := hrel
    have pj := PH.out j
    obtain ⟨T, hT⟩ : ∃ T, totL (zss.take j) = T := ⟨_, rfl⟩
    rw [hT] at pj ⊢
    have HT := Lib.hid hT
    clear hT
    by_cases hlt : j < n
    · obtain ⟨b, off, A', m, c', ys, rfl, hb, hcell, hi, hy⟩ := (h.below hbel).at hlt
      obtain ⟨zs, hz, hyl⟩ := iotas_rlen hy.out
      have bz := RB.out zs (mem_of_at hz)
      have hyz : ys = iota (k + T) m := by
        have h3 := hy.out
        rw [iotas_at hz, HT.out] at h3
        injection h3 with h3
        rw [← h3, ← hi.1, hyl]
      have hm : m = zs.length := by rw [← hyl, hi.1]
      subst hyz
      have HZ := Lib.hid hz
      have HM := Lib.hid hm
      have bm : m ≤ 1048576000 := by omega
      clear hz hyl hm
      go_wp2_with fail
      refine (heldInt64S_any A' m c' (k + T) _ hi (by omega) (by omega) (by omega)).mono ?_
      rintro e w1 ⟨rfl, hb1⟩
      have bel1 := bel_trans hbel hb1
      go_wp2_with fail
      go_roundw
      case rel =>
        refine ⟨j + 1, by omega, by go_num, ?_, bel1⟩
        rw [take_snoc' HZ.out, totL_snoc, HT.out, HM.out]
        congr 1
        omega
      case measure => simp [intOf]; omega
    · obtain rfl : n = j := by omega
      have HE : zss.take n = zss := List.take_of_length_le (by rw [hl.out]; omega)
      go_wp2_with fail
      go_ret
      exact ⟨by rw [← HT.out, HE]; rfl, hbel⟩
end Go.Proofs.YteehbnanjgmliaaDoor
