/- The preferred sets as the program finds them. -/
import Derived.Test.YteejfjgofpolkaaDefd
import Derived.Test.YteejfjgofpolkaaGrf2
import Derived.Test.YteejfjgofpolkaaApp
import Derived.Lib.SliceRun
import Derived.Lib.SlBuf
namespace Go.Proofs.Yteejfjgofpolkaa
set_option linter.unusedVariables false
set_option linter.unusedSimpArgs false
set_option maxRecDepth 100000
open Go.RowKit Go.Deep
theorem run_app_nums (w : World) (ty : TypeId) (base : Nat) (A : Option Addr) (n c : Nat) (zs : List Int) (hown : OwnN w base A n c zs) (B : Option Addr) (m d d' : Nat) (ys : List Int) (hr : Ints .i64 w B m d' ys)
    (hn : n ≤ 1048576) (hm : m ≤ 1048576) (hbase : base ≤ w.heap.size) :
    ∃ A' c' w', (Builtin.append_ #[76, 76] ty #[.slice A n c, .slice B m d]).run Try.prog w = .ok (.slice A' (n + m) c') w' ∧ OwnN w' base A' (n + m) c' (zs ++ ys) ∧ w.grownBy w' (Value.slice A n c).ownBlock ∧
      NewBlk w (.slice A n c) (.slice A' (n + m) c') := by
  obtain ⟨i0, hi, hz0, hz1, hz2⟩ := info_parts info_num
  have hwf : ∀ z ∈ zs ++ ys, (Lit.int .i64 z).wf = true := fun z hz => by
    rcases List.mem_append.1 hz with hz | hz
    · exact hown.2 z hz
    · exact hr.2.2.2.1 z hz
  rcases B with _ | ad
  · have hm0 : m = 0 := by
      rcases Nat.eq_zero_or_pos m with h0 | h0
      · exact h0
      · obtain ⟨b, off, h, _⟩ := hr.2.2.2.2 h0
        cases h
    subst hm0
    have hy : ys = [] := List.eq_nil_of_length_eq_zero hr.1
    subst hy
    exact ⟨A, c, w, run_app_nil w base _ ty _ i0 1 Try.underlying76 hi _ n (vals zs) hown.1 d, by simpa using hown, World.grownBy.refl w _, .inl rfl⟩
  · have hcells : ∀ j u, (vals ys)[j]? = some u → w.cell? (ad.add j) = some u := by
      intro j u hu
      rcases Nat.eq_zero_or_pos m with h0 | h0
      · subst h0
        have hy : ys = [] := List.eq_nil_of_length_eq_zero hr.1
        subst hy
        simp [vals] at hu
      · obtain ⟨b, off, h, _, hc⟩ := hr.2.2.2.2 h0
        simp only [Option.some.injEq] at h
        subst h
        rw [vals, List.getElem?_map] at hu
        obtain ⟨z, hy, rfl⟩ := Option.map_eq_some_iff.1 hu
        rw [Addr.add_lit]
        exact hc j z hy
    obtain ⟨v', w', hrun, h2, h3, _, h5⟩ := run_append_own_at (P := Try.prog) w base 76 ty 3 i0 (.int .i64 0) 1 8 Try.underlying76 hi hz0 hz1 hz2 rfl (by decide) _ n (vals zs) hown.1 ad m d (vals ys) (by simp [vals, hr.1]) hcells (by intro u hu; simp [vals] at hu; obtain ⟨z, _, rfl⟩ := hu; rfl) (by unfold maxLen; omega) (by omega) hbase
    obtain ⟨A', c', rfl⟩ := own_slice h2
    refine ⟨A', c', w', hrun, ⟨by simpa [vals] using h2, hwf⟩, h3, ?_⟩
    rcases h5 with e | e
    · exact .inl e
    · exact .inr ⟨_, e, Nat.le_refl _⟩
theorem app_nums {ops : Array Oper} {rest : List Oper} {o : Oper} {a : Act} {Q : Exit → Act → World → Prop} (w : World) (hgd : o.guard = none) (s x : Operand)
    (ho : o.op = .call { callee := .builtin .append, args := #[s, x], argTypes := #[76, 76] }) (base : Nat)
    (A : Option Addr) (n c : Nat) (zs : List Int) (hs : a.eval s = .slice A n c) (hown : OwnN w base A n c zs) (B : Option Addr) (m d d' : Nat) (ys : List Int) (hx : a.eval x = .slice B m d) (hr : Ints .i64 w B m d' ys)
    (hn : n ≤ 1048576) (hm : m ≤ 1048576) (hbase : base ≤ w.heap.size)
    (h : ∀ A' c' w1, OwnN w1 base A' (n + m) c' (zs ++ ys) → w.grownBy w1 (Value.slice A n c).ownBlock → NewBlk w (.slice A n c) (.slice A' (n + m) c') → wpList Try.prog ops Q rest (a.put o.dst (.slice A' (n + m) c')) w1) :
    wpList Try.prog ops Q (o :: rest) a w := by
  refine wpList_plain hgd fun _ hK => ?_
  obtain ⟨A', c', w', hrun, h2, h3, h4⟩ := run_app_nums w o.type base A n c zs hown B m d d' ys hr hn hm hbase
  unfold Oper.wp execOp
  simp only [ho, resolve, invoke, builtin, Sem.run_bind, Sem.run_pure, Result.andThen_ok, List.map_toArray, List.map_cons, List.map_nil, hs, hx, hrun]
  exact hK _ _ (h A' c' w' h2 h3 h4)
theorem cloneN_any (A : Option Addr) (n c : Nat) (zs : List Int) (w : World) (h : Ints .i64 w A n c zs) (hn : n ≤ 1048576) :
    Calls Try.prog 104 #[.slice A n c] w fun e w' => ∃ A' c', e = .returned (.slice A' n c') ∧ OwnN w' w.heap.size A' n c' zs ∧ Below w.heap.size w w' := by
  have NE : ∀ (a : Option Addr) (n c n' c' : Nat) (W : World), (binOp .eql 76 (.slice a n c) (.slice none n' c')).run Try.prog W = .ok (.bool a.isNone) W := fun a n c n' c' W => Lib.run_eql_slice_nil W 76 3 a n c n' c' Try.underlying76
  rcases A with _ | a
  · have h0 : n = 0 := by
      rcases Nat.eq_zero_or_pos n with h0 | h0
      · exact h0
      · obtain ⟨b, off, e, _⟩ := h.2.2.2.2 h0; cases e
    subst h0
    have hz : zs = [] := List.eq_nil_of_length_eq_zero h.1
    subst hz
    go_enter Try.func104, Try.ntmps104
    go_wp2_with fail
    go_ret
    exact ⟨none, 0, rfl, ownN_nil _ _, Below.refl _ _⟩
  · have ho := ownN_lit w
    have hb := bel_alloc w (.cells #[] 3)
    have hi := h.below hb
    have hsz : w.heap.size ≤ (w.alloc (.cells #[] 3)).heap.size := by simp
    go_enter Try.func104, Try.ntmps104
    go_wp2_with (at_builtin; refine app_nums _ rfl _ _ rfl w.heap.size (some ⟨w.heap.size, 0, none⟩) 0 0 [] rfl ho (some a) n c c zs rfl hi (by omega) hn hsz ?_; intro A' c' w1 p1 p2 p3)
    rw [Nat.zero_add] at *
    go_ret
    exact ⟨A', c', rfl, by simpa using p1, (hb.grown p2 hsz (fun k hk => by simp [Value.ownBlock] at hk; omega))⟩
/-- The first place of L where p holds, or -1. -/
def FirstIs (L : List Nat) (p : Nat → Bool) (r : Int) : Prop := (r = -1 ∧ ∀ m ∈ L, p m = false) ∨ ∃ (k m : Nat), r = (k : Int) ∧ L[k]? = some m ∧ p m = true ∧ ∀ m ∈ L.take k, p m = false
theorem FirstIs.any {L : List Nat} {p : Nat → Bool} {r : Int} (h : FirstIs L p r) : decide (0 ≤ r) = L.any p := by
  rcases h with ⟨rfl, h⟩ | ⟨k, m, rfl, h1, h2, _⟩
  · rw [Bool.eq_iff_iff, List.any_eq_true]
    constructor
    · intro h'; simp at h'
    · rintro ⟨m, h1, h2⟩; rw [h m h1] at h2; exact absurd h2 (by simp)
  · rw [Bool.eq_iff_iff, List.any_eq_true]
    exact ⟨fun _ => ⟨m, List.mem_of_getElem? h1, h2⟩, fun _ => by simp⟩
set_option maxRecDepth 100000 in
theorem indexN_sub (cap : Value) (A : Option Addr) (n c : Nat) (L : List Nat) (p : Nat → Bool) (w : World) (h : Ints .i64 w A n c (nI L))
   (hf : Hid (∀ m, m ∈ L → ∀ wr, Below w.heap.size w wr → Calls Try.prog 107 #[.int .i64 (m : Nat), cap] wr fun e w' => e = .returned (.bool (p m)) ∧ Below wr.heap.size wr w')) :
    Calls Try.prog 118 #[.slice A n c, .func (.func 107) #[] #[cap]] w fun e w' => ∃ r : Int, e = .returned (.int .i64 r) ∧ FirstIs L p r ∧ Below w.heap.size w w' := by
  have hm := h.short
  have hle : L.length = n := by have := h.1; rwa [nI_len] at this
  go_enter Try.func118, Try.ntmps118
  go_wp2
  go_loopw [5, 8] (fun i j wr => ∃ k : Nat, k ≤ n ∧ j = .int .i64 k ∧ Hid (∀ m ∈ L.take k, p m = false) ∧ Below w.heap.size w wr) (fun _ j _ => n - (intOf j).toNat)
  case atStart => exact ⟨0, Nat.zero_le _, rfl, fun m hm => by simp at hm, Below.refl _ _⟩
  case round =>
    obtain ⟨k, hk, rfl, H, hbel⟩ := hrel
    by_cases hlt : k < n
    · obtain ⟨m, hmm⟩ : ∃ m, L[k]? = some m := ⟨_, List.getElem?_eq_getElem (by omega)⟩
      obtain ⟨b, off, rfl, hcell⟩ := (h.below hbel).get (nI_at hmm)
      have hcall := Lib.hid (hf.out m (mem_of_at hmm) wr hbel)
      cases hp : p m
      · have HP := Lib.hid hp
        have HMM := Lib.hid hmm
        clear hp hmm
        go_wp2_with fail
        refine hcall.out.mono ?_
        rintro e w' ⟨rfl, hb2⟩
        rw [HP.out]
        have hb3 := bel_trans hbel hb2
        clear hb2
        go_wp2_with fail
        go_roundw
        case rel => exact ⟨k + 1, by omega, by go_num, fun m' hm' => by
          rw [take_snoc' HMM.out] at hm'
          rcases List.mem_append.1 hm' with h1 | h1
          · exact H.out m' h1
          · simp at h1; subst h1; exact HP.out, hb3⟩
        case measure => simp [intOf]; omega
      · have HP := Lib.hid hp
        have HMM := Lib.hid hmm
        clear hp hmm
        go_wp2_with fail
        refine hcall.out.mono ?_
        rintro e w' ⟨rfl, hb2⟩
        rw [HP.out]
        have hb3 := bel_trans hbel hb2
        clear hb2
        go_wp2_with fail
        go_ret
        exact ⟨_, rfl, .inr ⟨k, m, rfl, HMM.out, HP.out, H.out⟩, hb3⟩
    · go_wp2_with fail
      go_ret
      exact ⟨_, rfl, .inl ⟨rfl, fun m hm => H.out m (by rwa [List.take_of_length_le (by omega)])⟩, hbel⟩
theorem subCl_ok (m o : Nat) (hm : m < 1024) (ho : o < 1024) (a : Addr) (w : World) (hc : w.cell? a = some (.int .i64 m)) :
    Calls Try.prog 107 #[.int .i64 o, .pointer (some a)] w fun e w' => e = .returned (.bool (decide (o ≠ m) && decide (ldf m o = 0))) ∧ Below w.heap.size w w' := by
  have han := i64_andNot m o (by omega) (by omega)
  have hq := int_eq0 (ldf m o)
  have hne : (((o : Nat) : Int) != (m : Int)) = decide (o ≠ m) := by
    show (!(((o : Nat) : Int) == (m : Int))) = _
    rw [int_eqn]; by_cases e : o = m <;> simp [e]
  obtain ⟨R, hR⟩ : ∃ r, ldf m o = r := ⟨_, rfl⟩
  rw [hR] at han hq
  have HR := Lib.hid hR
  clear hR
  by_cases e : o = m
  · have E := Lib.hid (show (decide (o ≠ m) && decide (ldf m o = 0)) = false by simp [e])
    rw [show decide (o ≠ m) = false by simp [e]] at hne
    clear e
    go_enter Try.func107, Try.ntmps107
    go_wp2_with fail
    go_ret
    exact ⟨by rw [E.out]; rfl, Below.refl _ _⟩
  · have E := Lib.hid (show (decide (o ≠ m) && decide (ldf m o = 0)) = decide (R = 0) by rw [HR.out]; simp [e])
    rw [show decide (o ≠ m) = true by simp [e]] at hne
    clear e
    go_enter Try.func107, Try.ntmps107
    go_wp2_with fail
    go_ret
    exact ⟨by rw [E.out]; rfl, Below.refl _ _⟩
theorem containsN_sub (m : Nat) (hm : m < 1024) (a : Addr) (A : Option Addr) (n c : Nat) (L : List Nat) (hL : ∀ o ∈ L, o < 1024) (w : World) (hc : w.cell? a = some (.int .i64 m)) (ha : a.block < w.heap.size) (h : Ints .i64 w A n c (nI L)) :
    Calls Try.prog 106 #[.slice A n c, .func (.func 107) #[] #[.pointer (some a)]] w fun e w' => e = .returned (.bool (L.any fun o => decide (o ≠ m) && decide (ldf m o = 0))) ∧ Below w.heap.size w w' := by
  have I := Lib.hid (indexN_sub (.pointer (some a)) A n c L (fun o => decide (o ≠ m) && decide (ldf m o = 0)) w h fun o ho wr hb => subCl_ok m o hm (hL o ho) a wr ((hb.cell ha).trans hc))
  go_enter Try.func106, Try.ntmps106
  go_wp2_with fail
  refine I.out.mono ?_
  rintro e w1 ⟨r, rfl, hr, b1⟩
  have R := Lib.hid hr.any
  have B1 := Lib.hid b1
  clear hr b1
  go_wp2_with fail
  go_ret
  exact ⟨by rw [← R.out]; rfl, B1.out⟩
theorem prefCl_ok (m : Nat) (hm : m < 1024) (g : Nat) (A : Option Addr) (n c : Nat) (L : List Nat) (hL : ∀ o ∈ L, o < 1024) (w : World) (C0 : Cs w g [.slice A n c]) (h : Ints .i64 w A n c (nI L)) :
    Calls Try.prog 105 #[.int .i64 m, .pointer (some ⟨g, 0, none⟩)] w fun e w' => e = .returned (.bool (L.any fun o => decide (o ≠ m) && decide (ldf m o = 0))) ∧ Below w.heap.size w w' := by
  have b0 := bel_alloc w (.cells #[.int .i64 m] 3)
  have D0 := Cs.new w [.int .i64 m] 3
  have y0 := (C0.below b0).cell 0 rfl
  have K := Lib.hid (containsN_sub m hm ⟨w.heap.size, 0, none⟩ A n c L hL _ (D0.cell 0 rfl) D0.1 (h.below b0))
  have B0 := Lib.hid b0
  obtain ⟨v, hv⟩ : ∃ v, (L.any fun o => decide (o ≠ m) && decide (ldf m o = 0)) = v := ⟨_, rfl⟩
  rw [hv] at K ⊢
  clear C0 D0 h b0 hv
  go_enter Try.func105, Try.ntmps105
  go_wp2_with fail
  refine K.out.mono ?_
  rintro e w1 ⟨rfl, b1⟩
  have B1 := Lib.hid (bel_trans B0.out b1)
  clear b1
  go_wp2_with fail
  go_ret
  exact ⟨rfl, B1.out⟩
set_option maxRecDepth 100000 in
theorem indexN_pref (cap : Value) (A : Option Addr) (n c : Nat) (L : List Nat) (p : Nat → Bool) (w : World) (h : Ints .i64 w A n c (nI L))
   (hf : Hid (∀ m, m ∈ L → ∀ wr, Below w.heap.size w wr → Calls Try.prog 105 #[.int .i64 (m : Nat), cap] wr fun e w' => e = .returned (.bool (p m)) ∧ Below wr.heap.size wr w')) :
    Calls Try.prog 118 #[.slice A n c, .func (.func 105) #[] #[cap]] w fun e w' => ∃ r : Int, e = .returned (.int .i64 r) ∧ FirstIs L p r ∧ Below w.heap.size w w' := by
  have hm := h.short
  have hle : L.length = n := by have := h.1; rwa [nI_len] at this
  go_enter Try.func118, Try.ntmps118
  go_wp2
  go_loopw [5, 8] (fun i j wr => ∃ k : Nat, k ≤ n ∧ j = .int .i64 k ∧ Hid (∀ m ∈ L.take k, p m = false) ∧ Below w.heap.size w wr) (fun _ j _ => n - (intOf j).toNat)
  case atStart => exact ⟨0, Nat.zero_le _, rfl, fun m hm => by simp at hm, Below.refl _ _⟩
  case round =>
    obtain ⟨k, hk, rfl, H, hbel⟩ := hrel
    by_cases hlt : k < n
    · obtain ⟨m, hmm⟩ : ∃ m, L[k]? = some m := ⟨_, List.getElem?_eq_getElem (by omega)⟩
      obtain ⟨b, off, rfl, hcell⟩ := (h.below hbel).get (nI_at hmm)
      have hcall := Lib.hid (hf.out m (mem_of_at hmm) wr hbel)
      cases hp : p m
      · have HP := Lib.hid hp
        have HMM := Lib.hid hmm
        clear hp hmm
        go_wp2_with fail
        refine hcall.out.mono ?_
        rintro e w' ⟨rfl, hb2⟩
        rw [HP.out]
        have hb3 := bel_trans hbel hb2
        clear hb2
        go_wp2_with fail
        go_roundw
        case rel => exact ⟨k + 1, by omega, by go_num, fun m' hm' => by
          rw [take_snoc' HMM.out] at hm'
          rcases List.mem_append.1 hm' with h1 | h1
          · exact H.out m' h1
          · simp at h1; subst h1; exact HP.out, hb3⟩
        case measure => simp [intOf]; omega
      · have HP := Lib.hid hp
        have HMM := Lib.hid hmm
        clear hp hmm
        go_wp2_with fail
        refine hcall.out.mono ?_
        rintro e w' ⟨rfl, hb2⟩
        rw [HP.out]
        have hb3 := bel_trans hbel hb2
        clear hb2
        go_wp2_with fail
        go_ret
        exact ⟨_, rfl, .inr ⟨k, m, rfl, HMM.out, HP.out, H.out⟩, hb3⟩
    · go_wp2_with fail
      go_ret
      exact ⟨_, rfl, .inl ⟨rfl, fun m hm => H.out m (by rwa [List.take_of_length_le (by omega)])⟩, hbel⟩
theorem filt_all {L : List Nat} {p : Nat → Bool} (h : ∀ m ∈ L, p m = false) : L.filter (fun m => !p m) = L := List.filter_eq_self.2 fun m hm => by rw [h m hm]; rfl
theorem filt_len {L : List Nat} {p : Nat → Bool} {k j m : Nat} (h1 : L[k]? = some m) (h2 : p m = true) (hj : k < j) (hl : j ≤ L.length) : ((L.take j).filter fun m => !p m).length < j := by
  have e : (L.take j).length = j := by rw [List.length_take]; omega
  rcases Nat.lt_or_ge ((L.take j).filter fun m => !p m).length j with h | h
  · exact h
  · have h3 := List.length_filter_le (fun m => !p m) (L.take j)
    have h4 : ((L.take j).filter fun m => !p m).length = (L.take j).length := by omega
    have h5 := List.filter_eq_self.1 (List.Sublist.eq_of_length List.filter_sublist h4) m (List.mem_of_getElem? (i := k) (by rw [List.getElem?_take_of_lt hj]; exact h1))
    rw [h2] at h5
    exact absurd h5 (by simp)
theorem nI_snoc (l : List Nat) (m : Nat) : nI (l ++ [m]) = nI l ++ [(m : Int)] := by simp [nI]
theorem take_set_snoc {ys : List Int} {i : Nat} {z : Int} (hi : i < ys.length) : (ys.set i z).take (i + 1) = ys.take i ++ [z] := by
  have h1 : (ys.set i z)[i]? = some z := List.getElem?_set_self hi
  rw [take_snoc' h1, List.take_set_of_le (Nat.le_refl _)]
theorem belN_setCells {B : Nat} {a : World} (b : Nat) (hb : B ≤ b) : ∀ (vs : List Value) (o : Nat) {w : World}, Below B a w → Below B a (w.setCells b o vs)
  | [], _, _, h => h
  | v :: r, o, _, h => belN_setCells b hb r (o + 1) (h.setCell (p := ⟨b, o, none⟩) hb v)
theorem size_setCellsN (b : Nat) : ∀ (vs : List Value) (o : Nat) (w : World), (w.setCells b o vs).heap.size = w.heap.size
  | [], _, _ => rfl
  | v :: r, o, w => by show ((w.setCell ⟨b, o, none⟩ v).setCells b (o + 1) r).heap.size = _; rw [size_setCellsN]; simp [World.setCell]
set_option maxHeartbeats 2000000 in
theorem deleteN_pref (cap : Value) (W0 : World) (A : Option Addr) (n c : Nat) (L : List Nat) (p : Nat → Bool) (w : World) (h : OwnN w W0.heap.size A n c (nI L)) (hb : Below W0.heap.size W0 w) (hn : n ≤ 1048576)
   (LB : Hid (∀ (j m : Nat), L[j]? = some m → m < 1024))
   (hf : Hid (∀ m, m ∈ L → ∀ wr, Below W0.heap.size W0 wr → Calls Try.prog 105 #[.int .i64 (m : Nat), cap] wr fun e w' => e = .returned (.bool (p m)) ∧ Below wr.heap.size wr w')) :
    Calls Try.prog 103 #[.slice A n c, .func (.func 105) #[] #[cap]] w fun e w' => ∃ A' c', e = .returned (.slice A' (L.filter fun m => !p m).length c') ∧ Ints .i64 w' A' (L.filter fun m => !p m).length c' (nI (L.filter fun m => !p m)) ∧ Below W0.heap.size W0 w' := by
  have I := Lib.hid (indexN_pref cap A n c L p w h.ints fun m hm wr hw => hf.out m hm wr (bel_trans hb hw))
  have hlen : L.length = n := by have := h.ints.1; rwa [nI_len] at this
  have O := Lib.hid h
  have B := Lib.hid hb
  have HL := Lib.hid hlen
  clear h hb
  go_enter Try.func103, Try.ntmps103
  go_wp2_with fail
  refine I.out.mono ?_
  rintro e w1 ⟨r, rfl, hr, b1⟩
  have B1 := Lib.hid (bel_trans B.out b1)
  have O1 := Lib.hid (O.out.below b1)
  clear b1
  rcases hr with ⟨rfl, hall⟩ | ⟨k0, m0, rfl, hk0, hp0, hall⟩
  · have E := Lib.hid (filt_all hall)
    clear hall
    go_wp2_with fail
    go_ret
    rw [E.out, HL.out]
    exact ⟨A, c, rfl, O1.out.ints, B1.out⟩
  · have hk : k0 < n := by have := (List.getElem?_eq_some_iff.1 hk0).1; omega
    have hne : ((k0 : Int) == -1) = false := by show decide _ = false; exact decide_eq_false (by omega)
    have HK := Lib.hid hk0
    have HP := Lib.hid hp0
    have E0 := Lib.hid (show (L.take (k0 + 1)).filter (fun m => !p m) = L.take k0 by rw [take_snoc' hk0, List.filter_append, filt_all hall]; simp [hp0])
    clear hk0 hp0 hall hlen
    go_wp2_with fail
    go_loopw [5, 6] (fun i t wr => ∃ (j : Nat) (ys : List Int), k0 < j ∧ j ≤ n ∧ t = .int .i64 j ∧ i = .int .i64 ((L.take j).filter fun m => !p m).length ∧ OwnN wr W0.heap.size A n c ys ∧ Hid (ys.take ((L.take j).filter fun m => !p m).length = nI ((L.take j).filter fun m => !p m)) ∧ Hid (∀ t, j ≤ t → ys[t]? = (nI L)[t]?) ∧ Below W0.heap.size W0 wr) (fun _ t _ => n - (intOf t).toNat)
    case atStart => exact ⟨k0 + 1, nI L, by omega, by omega, by go_num, by rw [E0.out, List.length_take]; have := HL.out; simp; omega, O1.out, by
      show _ = _
      rw [E0.out]
      have : (L.take k0).length = k0 := by rw [List.length_take]; have := HL.out; omega
      rw [this]; unfold nI; rw [List.map_take], fun _ _ => rfl, B1.out⟩
    case round =>
      obtain ⟨j, ys, hkj, hj, rfl, rfl, hO, T1, T2, hB⟩ := hrel
      have O2 := Lib.hid hO
      have B2 := Lib.hid hB
      clear hO hB
      have yl := O2.out.len
      have il := filt_len HK.out HP.out hkj (by have := HL.out; omega)
      by_cases hlt : j < n
      · obtain ⟨m, hm⟩ : ∃ m, L[j]? = some m := ⟨_, List.getElem?_eq_getElem (by have := HL.out; omega)⟩
        obtain ⟨g, rfl, hg1, hg2⟩ := O2.out.form (by omega)
        have cj := O2.out.cell (show ys[j]? = some (m : Int) from (T2.out j (Nat.le_refl _)).trans (nI_at hm))
        have hcall := Lib.hid (hf.out m (mem_of_at hm) wr B2.out)
        have FS := Lib.hid (show (L.take (j + 1)).filter (fun m => !p m) = (L.take j).filter (fun m => !p m) ++ (if !p m then [m] else []) by rw [take_snoc' hm, List.filter_append]; congr 1; simp only [List.filter_cons, List.filter_nil])
        obtain ⟨Q, hQ⟩ : ∃ q, (L.take j).filter (fun m => !p m) = q := ⟨_, rfl⟩
        rw [hQ] at T1 FS il ⊢
        have hd := decide_eq_true (show (j : Int) < (n : Int) by omega)
        have j0 : (0 : Int) ≤ (j : Int) := by omega
        have j1 : (j : Int) < (n : Int) := by omega
        have i0 : (0 : Int) ≤ (Q.length : Int) := by omega
        have i1 : (Q.length : Int) < (n : Int) := by omega
        have HMM := Lib.hid hm
        clear hm hQ
        cases hp : p m
        · rw [hp] at FS hcall
          have E := Lib.hid (show (L.take (j + 1)).filter (fun m => !p m) = Q ++ [m] by rw [FS.out]; rfl)
          clear hp
          go_wp2_with fail
          refine hcall.out.mono ?_
          rintro e w3 ⟨rfl, b3⟩
          have O3 := Lib.hid (O2.out.below b3)
          have B3 := Lib.hid (bel_trans B2.out b3)
          have fi := O3.out.free Q.length
          obtain ⟨z, hz⟩ : ∃ z, ys[Q.length]? = some z := ⟨_, List.getElem?_eq_getElem (by omega)⟩
          have ci := O3.out.cell hz
          have M := LB.out j m HMM.out
          have S := Lib.hid (O3.out.set Q.length (m : Int) (by omega) (by omega)).1
          have BS := Lib.hid (B3.out.setCell (p := ⟨g, Q.length, none⟩) hg1 (.int .i64 (m : Nat)))
          clear b3 cj hz
          go_wp2_with fail
          go_roundw
          case rel => exact ⟨j + 1, ys.set Q.length (m : Int), by omega, by omega, by go_num, by rw [E.out]; simp, S.out, by
            show _ = _
            rw [E.out, List.length_append, nI_snoc, ← T1.out]
            exact take_set_snoc (by omega), fun t ht => by
            rw [List.getElem?_set_ne (by omega)]
            exact T2.out t (by omega), BS.out⟩
          case measure => simp [intOf]; omega
        · rw [hp] at FS hcall
          have E := Lib.hid (show (L.take (j + 1)).filter (fun m => !p m) = Q by rw [FS.out]; simp)
          clear hp
          go_wp2_with fail
          refine hcall.out.mono ?_
          rintro e w3 ⟨rfl, b3⟩
          have O3 := Lib.hid (O2.out.below b3)
          have B3 := Lib.hid (bel_trans B2.out b3)
          clear b3 cj
          go_wp2_with fail
          go_roundw
          case rel => exact ⟨j + 1, ys, by omega, by omega, by go_num, by rw [E.out], O3.out, by show _ = _; rw [E.out]; exact T1.out, fun t ht => T2.out t (by omega), B3.out⟩
          case measure => simp [intOf]; omega
      · obtain rfl : j = n := by omega
        obtain ⟨g, rfl, hg1, hg2⟩ := O2.out.form (by omega)
        have tk : L.take j = L := List.take_of_length_le (by have := HL.out; omega)
        rw [tk] at T1 il ⊢
        have hd := decide_eq_false (show ¬ (j : Int) < (j : Int) by omega)
        obtain ⟨Q, hQ⟩ : ∃ q, L.filter (fun m => !p m) = q := ⟨_, rfl⟩
        rw [hQ] at T1 il ⊢
        have HQ := Lib.hid hQ
        clear hQ tk
        have i0 : (0 : Int) ≤ (Q.length : Int) := by omega
        have i1 : (Q.length : Int) ≤ (j : Int) := by omega
        have jc := O2.out.ints.2.1
        have i2 : (Q.length : Int) ≤ (c : Int) := by omega
        have hcl := Lib.run_clear_slice (P := Try.prog) wr 76 3 0 (.int .i64 0) Try.underlying76 (fun _ => by kernel_rfl) rfl rfl g Q.length (j - Q.length) (c - Q.length) (by omega)
          (fun t ht => by rw [O2.out.cell (List.getElem?_eq_getElem (show Q.length + t < ys.length by omega))]; rfl) (fun t _ => O2.out.free _)
        have ll := O2.out.ints
        have II : Hid (Ints .i64 (wr.setCells g Q.length (List.replicate (j - Q.length) (.int .i64 0))) (some ⟨g, 0, none⟩) Q.length c (nI Q)) := by
          refine ⟨nI_len Q, by omega, ll.2.2.1, fun z hz => ?_, fun _ => ⟨g, 0, rfl, by rw [size_setCellsN]; exact hg2, fun t z hz => ?_⟩⟩
          · rw [← T1.out] at hz
            exact ll.2.2.2.1 z (List.mem_of_mem_take hz)
          · have ht : t < Q.length := by have := (List.getElem?_eq_some_iff.1 hz).1; rwa [nI_len] at this
            rw [World.cell?_setCells_out g _ _ _ _ (fun _ _ => .inl (by simpa using ht)), Nat.zero_add]
            refine O2.out.cell ?_
            rw [← T1.out, List.getElem?_take_of_lt ht] at hz
            exact hz
        have BE := Lib.hid (belN_setCells g hg1 (List.replicate (j - Q.length) (.int .i64 0)) Q.length B2.out)
        clear ll
        go_wp2_with fail
        clear hcl
        go_ret
        rw [HQ.out]
        exact ⟨some ⟨g, 0, none⟩, c, rfl, II.out, BE.out⟩
set_option maxHeartbeats 1000000 in
theorem masks_good (n : Nat) (n10 : n ≤ 10) (pb : Value) (A : Option Addr) (m c : Nat) (p : Nat → Bool) (w : World)
   (hf : Hid (∀ x, x < 2 ^ n → ∀ wr, Below w.heap.size w wr → Calls Try.prog 84 #[pb,.int .i64 (x : Nat)] wr fun e w' => e = .returned (.bool (p x)) ∧ Below wr.heap.size wr w')) :
    Calls Try.prog 83 #[.agg #[.int .i64 n, .slice A m c], .func (.func 84) #[pb] #[]] w fun e w' => ∃ A' c', e = .returned (.slice A' (nI (allM n p)).length c') ∧ OwnN w' w.heap.size A' (nI (allM n p)).length c' (nI (allM n p)) ∧ Below w.heap.size w w' := by
  have b0 := bel_alloc w (.cells #[.int .i64 n, .slice A m c] 26)
  have C0 := Cs.new w [.int .i64 n, .slice A m c] 26
  have b1 := bel_alloc (w.alloc (.cells #[.int .i64 n, .slice A m c] 26)) (.cells #[] 3)
  have y0 := C0.cell 0 rfl
  have z0 := (C0.below b1).cell 0 rfl
  have O0 := (ownN_lit (w.alloc (.cells #[.int .i64 n, .slice A m c] 26))).mono (b2 := w.heap.size) (by simp)
  have B0 := Lib.hid (bel_trans b0 b1)
  have h2p := two_pow_le n10
  have hsl := shl_wrap10 n10
  have mn0 : min n 64 = n := by omega
  have j0 : (0 : Int) ≤ (n : Int) := by omega
  have EN := Lib.hid (mL_all n p)
  obtain ⟨N, hN⟩ : ∃ r, 2 ^ n = r := ⟨_, rfl⟩
  rw [hN] at h2p EN hf hsl
  rw [show (w.alloc (.cells #[.int .i64 n, .slice A m c] 26)).heap.size = w.heap.size + 1 by simp] at O0
  have HO0 := Lib.hid O0
  clear hN C0 b0 b1 O0
  go_enter Try.func83, Try.ntmps83
  go_wp2_with fail
  clear y0 z0
  go_loopw [5, 11] (fun o t wr => ∃ (k : Nat) (A : Option Addr) (c : Nat), k ≤ N ∧ t = .int .i64 k ∧ o = .slice A (mL p k).length c ∧ OwnN wr w.heap.size A (mL p k).length c (mL p k) ∧ Below w.heap.size w wr) (fun _ t _ => N - (intOf t).toNat)
  case atStart => exact ⟨0, _, _, Nat.zero_le _, rfl, rfl, HO0.out, B0.out⟩
  case round =>
    obtain ⟨k, A, c, hk, rfl, rfl, hO, hB⟩ := hrel
    have HO := Lib.hid hO
    have HB := Lib.hid hB
    clear hO hB
    by_cases hlt : k < N
    · have hd : decide ((k : Int) < (N : Int)) = true := decide_eq_true (by omega)
      have hs := HB.out.size
      have hl := mL_len p k
      have CL := Lib.hid (hf.out k hlt wr HB.out)
      cases hp : p k
      · rw [hp] at CL
        have E := Lib.hid (mL_no hp)
        clear hp
        go_wp2_with fail
        refine CL.out.mono ?_
        rintro e w3 ⟨rfl, b3⟩
        have HO3 := Lib.hid (HO.out.below b3)
        have HB3 := Lib.hid (bel_trans HB.out b3)
        clear b3
        go_wp2_with fail
        go_roundw
        case rel => exact ⟨k + 1, A, c, by omega, by go_num, by rw [E.out], by rw [E.out]; exact HO3.out, HB3.out⟩
        case measure => simp [intOf]; omega
      · rw [hp] at CL
        have E := Lib.hid (mL_yes hp)
        clear hp
        go_wp2_with fail
        refine CL.out.mono ?_
        rintro e w3 ⟨rfl, b3⟩
        have HO3 := Lib.hid (HO.out.below b3)
        have HB3 := Lib.hid (bel_trans HB.out b3)
        have hs3 := HB3.out.size
        clear b3
        go_wp2_with (at_builtin; refine app_num_at w3 rfl _ _ rfl w.heap.size A (mL p k).length c (mL p k) rfl HO3.out (k : Int) (by omega) (by omega) rfl (by omega) hs3 ?_; intro A7 c7 w7 p1 p2 p3; have P1 := Lib.hid p1; have B7 := Lib.hid (HB3.out.grown p2 hs3 (fun x hx => (HO3.out.block x hx).1)); clear p1 p2 p3)
        go_roundw
        case rel => exact ⟨k + 1, A7, c7, by omega, by go_num, by rw [E.out]; simp, by rw [E.out]; simpa using P1.out, B7.out⟩
        case measure => simp [intOf]; omega
    · obtain rfl : k = N := by omega
      have hd : decide ((k : Int) < (k : Int)) = false := decide_eq_false (by omega)
      have OE : Hid (OwnN wr w.heap.size A (nI (allM n p)).length c (nI (allM n p))) := by show OwnN _ _ _ _ _ _; rw [← EN.out]; exact HO.out
      go_wp2_with fail
      go_ret
      exact ⟨A, c, by rw [EN.out]; rfl, OE.out, HB.out⟩
set_option maxHeartbeats 2000000 in
theorem preferred_ok (n : Nat) (es : List (Nat × Nat)) (ok : FrOk n es) (A : Option Addr) (m c : Nat) (w : World) (h : Rws w A m c (es.map erow)) :
    Calls Try.prog 82 #[.agg #[.int .i64 n, .slice A m c]] w fun e w' => ∃ A' c', e = .returned (.slice A' (prefM n es).length c') ∧ Ints .i64 w' A' (prefM n es).length c' (nI (prefM n es)) ∧ Below w.heap.size w w' := by
  have b0 := bel_alloc w (.cells #[.int .i64 n, .slice A m c] 26)
  have C0 := Cs.new w [.int .i64 n, .slice A m c] 26
  have y0 := C0.cell 0 rfl
  have y1 := C0.cell 1 rfl
  have B0 := Lib.hid b0
  have H := Lib.hid h
  have OK := Lib.hid ok
  have n10 := ok.n10
  have EN := Lib.hid (pref_impl ok)
  have LB := Lib.hid (fun (j m : Nat) (hj : (allM n (goodB n es))[j]? = some m) => pow10 n10 (allM_mem.1 (List.mem_of_getElem? hj)).1)
  have hlen : (allM n (goodB n es)).length ≤ 1024 := by
    refine Nat.le_trans (List.length_filter_le _ _) ?_
    rw [List.length_range]
    exact two_pow_le n10
  have MK := Lib.hid (masks_good n n10 (.agg #[.int .i64 n, .slice A m c]) A m c (goodB n es) _ fun x hx wr hw => isGood_ok n es ok x (pow10 n10 hx) A m c wr (h.below (bel_trans b0 hw)))
  clear C0 b0 h ok
  go_enter Try.func82, Try.ntmps82
  go_wp2_with fail
  refine MK.out.mono ?_
  rintro e w1 ⟨A1, c1, rfl, o1, u1⟩
  obtain ⟨L, hL⟩ : ∃ l, allM n (goodB n es) = l := ⟨_, rfl⟩
  rw [hL] at EN LB hlen o1 ⊢
  rw [nI_len] at o1 ⊢
  have B1 := Lib.hid (bel_trans B0.out u1)
  have HM := Lib.hid (fun (o : Nat) (ho : o ∈ L) => (by obtain ⟨j, hj, rfl⟩ := List.mem_iff_getElem.1 ho; exact LB.out j _ (List.getElem?_eq_getElem hj) : o < 1024))
  have a1 := bel_alloc w1 (.cells #[.slice A1 L.length c1] 76)
  have CG := Lib.hid (Cs.new w1 [.slice A1 L.length c1] 76)
  have I1 := Lib.hid (o1.ints.below a1)
  have B2 := Lib.hid (bel_trans B1.out a1)
  clear u1 o1 y0 y1 hL MK a1
  have z0 := CG.out.cell 0 rfl
  go_wp2_with fail
  refine (cloneN_any A1 L.length c1 (nI L) _ I1.out (by omega)).mono ?_
  rintro e w3 ⟨A3, c3, rfl, o3, u3⟩
  have O3 := Lib.hid o3
  have U3 := Lib.hid u3
  clear o3 u3 z0
  go_wp2_with fail
  refine (deleteN_pref (.pointer (some ⟨w1.heap.size, 0, none⟩)) (w1.alloc (.cells #[.slice A1 L.length c1] 76)) A3 L.length c3 L (fun m => L.any fun o => decide (o ≠ m) && decide (ldf m o = 0)) w3 O3.out U3.out (by omega) LB.out
    (fun m hm wr hw => prefCl_ok m (HM.out m hm) _ A1 L.length c1 L HM.out wr (CG.out.below hw) (I1.out.below hw))).mono ?_
  rintro e w4 ⟨A4, c4, rfl, i4, u4⟩
  rw [EN.out] at i4 ⊢
  have I4 := Lib.hid i4
  have B4 := Lib.hid (bel_trans B2.out u4)
  clear i4 u4
  go_wp2_with fail
  go_ret
  exact ⟨A4, c4, rfl, I4.out, B4.out⟩
end Go.Proofs.Yteejfjgofpolkaa
