/- Contracts of the reference's source of choices: what it hands out is in range; only its own block turns. -/
import Derived.Test.YtiodbjfchfmlcaaMark
import Derived.Test.YtiodbjfchfmlcaaMat
import Derived.Test.YtiodbjfchfmlcaaFrac
import Derived.Deep.RegionWith
namespace Go.Proofs.Ytiodbjfchfmlcaa
set_option linter.unusedVariables false
open Go.RowKit

/-- A block that is known whole. -/
def Blk (w : World) (g : Nat) (t : TypeId) (cs : Array Value) : Prop := w.heap[g]? = some (.cells cs t (0, 0))
section
variable {w w' : World} {g : Nat} {t : TypeId} {cs : Array Value}
theorem Blk.lt (h : Blk w g t cs) : g < w.heap.size := by
  rcases Nat.lt_or_ge g w.heap.size with hlt | hge
  · exact hlt
  · unfold Blk at h; rw [Array.getElem?_eq_none hge] at h; cases h
theorem Blk.cell (h : Blk w g t cs) (i : Nat) : w.cell? ⟨g, i, none⟩ = cs[i]? := cell_of_row w g i cs t (0, 0) h
theorem Blk.frozen (h : Blk w g t cs) (i : Nat) : w.frozen? ⟨g, i, none⟩ = false := by
  unfold Blk at h
  simp [World.frozen?, h]
theorem Blk.new (w : World) (t : TypeId) (cs : Array Value) : Blk (w.alloc (.cells cs t)) w.heap.size t cs := heap_alloc_new w _
theorem Blk.set_ (h : Blk w g t cs) (i : Nat) (u : Value) : Blk (w.setCell ⟨g, i, none⟩ u) g t (cs.setIfInBounds i u) := by
  unfold Blk at h ⊢
  simp [World.setCell, Array.getElem?_modify, h]
theorem Blk.kept {row : Option Nat} (h : Blk w g t cs) (hb : w.grownBy w' row) (hg : some g ≠ row) : Blk w' g t cs := (hb.block g h.lt hg).trans h
theorem Blk.below (h : Blk w g t cs) (hb : Below w.heap.size w w') : Blk w' g t cs := (hb.block g h.lt).trans h
end

/-- A source: its block holds the bytes, how many were asked for, and a seed. -/
def Src (w : World) (g : Nat) (A : Option Addr) (n c : Nat) (bs : List Int) (k : Nat) : Prop :=
  ∃ sd : Int, 0 ≤ sd ∧ sd ≤ 18446744073709551615 ∧ Blk w g 71 #[.slice A n c, .int .i64 k, .int .u64 sd] ∧ Ints .u8 w A n c bs ∧ (0 < n → ∀ a, A = some a → a.block < g)
theorem Src.kept {w w' : World} {g : Nat} {A : Option Addr} {n c : Nat} {bs : List Int} {k : Nat} (h : Src w g A n c bs k) (hb : Below w.heap.size w w') : Src w' g A n c bs k := by
  obtain ⟨sd, h1, h2, h3, h4, h5⟩ := h
  exact ⟨sd, h1, h2, h3.below hb, h4.below hb, h5⟩
theorem Ints.at8 {w : World} {A : Option Addr} {n c j : Nat} {zs : List Int} (h : Ints .u8 w A n c zs) (hj : j < n) :
    ∃ b off z, A = some ⟨b, off, none⟩ ∧ b < w.heap.size ∧ w.cell? ⟨b, off + j, none⟩ = some (.int .u8 z) ∧ 0 ≤ z ∧ z ≤ 255 ∧ Hid (zs[j]? = some z) := by
  obtain ⟨h1, h2, h3, h4, h5⟩ := h
  obtain ⟨b, off, hA, hb, hc⟩ := h5 (by omega)
  have hl : j < zs.length := by omega
  have hg : zs[j]? = some zs[j] := List.getElem?_eq_getElem hl
  have hw := bounds_u8 (h4 zs[j] (List.getElem_mem hl))
  exact ⟨b, off, zs[j], hA, hb, hc j _ hg, hw.1, hw.2, hg⟩
/-- A source is left alone where a younger block is written. -/
theorem Src.grown {w w' : World} {g : Nat} {A : Option Addr} {n c : Nat} {bs : List Int} {k : Nat} {row : Option Nat} (h : Src w g A n c bs k) (hg : w.grownBy w' row) (hr : ∀ r, row = some r → g < r) : Src w' g A n c bs k := by
  obtain ⟨sd, s1, s2, h3, h4, h5⟩ := h
  refine ⟨sd, s1, s2, h3.kept hg (fun e => by have := hr g e.symm; omega), ?_, h5⟩
  obtain ⟨i1, i2, i3, i4, i5⟩ := h4
  refine ⟨i1, i2, i3, i4, fun hn => ?_⟩
  obtain ⟨b, off, hA, hbk, hc⟩ := i5 hn
  refine ⟨b, off, hA, Nat.lt_of_lt_of_le hbk hg.size, fun j z hz => ?_⟩
  rw [World.cell?_of_block (w := w) (hg.block b hbk (fun e => by have := hr b e.symm; have := h5 hn _ hA; simp at this; omega))]
  exact hc j z hz
/-- Only block g has turned of what was there: behind a write to a younger row too. -/
theorem only_new {w w1 w2 : World} {g : Option Nat} {row : Option Nat} (h : w.grownBy w1 g) (k : w1.grownBy w2 row) (hr : ∀ r, row = some r → w.heap.size ≤ r) : w.grownBy w2 g :=
  ⟨k.os.trans h.os, k.tape.trans h.tape, k.output.trans h.output, Nat.le_trans h.size k.size, fun i hi hne => (k.block i (Nat.lt_of_lt_of_le hi h.size) (fun e => by have := hr i e.symm; omega)).trans (h.block i hi hne)⟩
theorem Src.lt {w : World} {g : Nat} {A : Option Addr} {n c : Nat} {bs : List Int} {k : Nat} (h : Src w g A n c bs k) : g < w.heap.size := by
  obtain ⟨sd, h1, h2, h3, h4, h5⟩ := h
  exact h3.lt
theorem ownI_lits (w : World) (zs : List Int) (hz : ∀ z ∈ zs, (Lit.int .i64 z).wf = true) (hl : zs.length ≤ 1048576) :
    OwnI (w.alloc (.cells (vals zs).toArray 2)) w.heap.size (some ⟨w.heap.size, 0, none⟩) zs.length zs.length zs :=
  ⟨by simpa using World.ownsRow_lit (base := w.heap.size) (e := 2) (size := 1) w (vals zs).toArray zs.length (Nat.le_refl _) (by unfold maxLen; omega) (by simp [vals]), hz⟩
/-- What a question to the source leaves: a number of which something holds; a few more bytes were asked for. -/
def Asked (p : Int → Prop) (g : Nat) (A : Option Addr) (n c : Nat) (bs : List Int) (k m : Nat) (w : World) (e : Ending) (w' : World) : Prop :=
  ∃ (r : Int) (k' : Nat), e = .returned (.int .i64 r) ∧ p r ∧ k ≤ k' ∧ k' ≤ k + m ∧ Src w' g A n c bs k' ∧ w.grownBy w' (some g)
theorem u64_bd (x : Int) : 0 ≤ IntKind.u64.wrap x ∧ IntKind.u64.wrap x ≤ 18446744073709551615 := by
  simp only [IntKind.wrap, IntKind.bits, IntKind.signed]
  simp
  omega
theorem and255 (x : Int) : 0 ≤ wrap64 (bits .and .u64 x 255) ∧ wrap64 (bits .and .u64 x 255) ≤ 255 := by
  have h : ∃ m : Nat, bits .and .u64 x 255 = (m : Int) ∧ m ≤ 255 := by
    refine ⟨(BitVec.ofInt 64 x &&& BitVec.ofInt 64 255).toNat, ?_, ?_⟩
    · have hle : (BitVec.ofInt 64 x &&& BitVec.ofInt 64 255).toNat ≤ 255 := by
        rw [BitVec.toNat_and]; exact Nat.and_le_right
      show IntKind.u64.wrap ((BitVec.ofInt 64 x &&& BitVec.ofInt 64 255).toNat : Int) = _
      generalize (BitVec.ofInt 64 x &&& BitVec.ofInt 64 255).toNat = m at hle ⊢
      rw [IntKind.wrap_u64]
      omega
    · rw [BitVec.toNat_and]; exact Nat.and_le_right
  obtain ⟨m, e, hm⟩ := h
  rw [e, IntWalk.wrap64_in _ ⟨by omega, by omega⟩]
  omega
/-- The source behind one more byte. -/
theorem src_next {w w' : World} {g : Nat} {A : Option Addr} {n c : Nat} {bs : List Int} {k : Nat} {sd : Int} {x : Int} {m m' : Nat} (hblk : Blk w g 71 #[.slice A n c, .int .i64 k, .int .u64 sd]) (hi : Ints .u8 w A n c bs) (hne : 0 < n → ∀ a, A = some a → a.block < g)
    (hw : w' = (((w.drewN m).setCell ⟨g, 1, none⟩ (.int .i64 ((k : Int) + 1))).setCell ⟨g, 2, none⟩ (.int .u64 (IntKind.u64.wrap x))).drewN m') :
    Src w' g A n c bs (k + 1) ∧ w.grownBy w' (some g) := by
  have hg : w.grownBy w' (some g) := by
    subst hw
    refine ⟨rfl, rfl, rfl, by simp [World.setCell], fun i hi hne => ?_⟩
    rw [show (((((w.drewN m).setCell ⟨g, 1, none⟩ (.int .i64 ((k : Int) + 1))).setCell ⟨g, 2, none⟩ (.int .u64 (IntKind.u64.wrap x))).drewN m').heap = (((w.drewN m).setCell ⟨g, 1, none⟩ (.int .i64 ((k : Int) + 1))).setCell ⟨g, 2, none⟩ (.int .u64 (IntKind.u64.wrap x))).heap) from rfl]
    rw [Below.heap_setCell _ _ _ _ (fun e => hne (by rw [e])), Below.heap_setCell _ _ _ _ (fun e => hne (by rw [e]))]
    rfl
  refine ⟨⟨IntKind.u64.wrap x, (u64_bd x).1, (u64_bd x).2, ?_, ?_, hne⟩, hg⟩
  · subst hw
    have h1 : Blk (w.drewN m) g 71 #[.slice A n c, .int .i64 k, .int .u64 sd] := hblk
    have h2 := (h1.set_ 1 (.int .i64 ((k : Int) + 1))).set_ 2 (.int .u64 (IntKind.u64.wrap x))
    have h3 : Blk (((w.drewN m).setCell ⟨g, 1, none⟩ (.int .i64 ((k : Int) + 1))).setCell ⟨g, 2, none⟩ (.int .u64 (IntKind.u64.wrap x))) g 71 #[.slice A n c, .int .i64 ((k : Int) + 1), .int .u64 (IntKind.u64.wrap x)] := by simpa using h2
    exact h3
  · obtain ⟨h1, h2, h3, h4, h5⟩ := hi
    refine ⟨h1, h2, h3, h4, fun hn => ?_⟩
    obtain ⟨b, off, hA, hbk, hc⟩ := h5 hn
    refine ⟨b, off, hA, Nat.lt_of_lt_of_le hbk hg.size, fun j z hz => ?_⟩
    rw [World.cell?_of_block (w := w) (hg.block b hbk (fun e => by injection e with e; have := hne hn _ hA; simp at this; omega))]
    exact hc j z hz
theorem next_any (g : Nat) (A : Option Addr) (n c : Nat) (bs : List Int) (k : Nat) (w : World) (h : Src w g A n c bs k) (hk : k ≤ 1099511627776) :
    Calls Try.prog 59 #[.pointer (some ⟨g, 0, none⟩)] w (Asked (fun r => 0 ≤ r ∧ r ≤ 255) g A n c bs k 1 w) := by
  obtain ⟨sd, s1, s2, hblk, hi, hne⟩ := h
  have q0 := hblk.cell 0
  have q1 := hblk.cell 1
  have q2 := hblk.cell 2
  have f1 := hblk.frozen 1
  have f2 := hblk.frozen 2
  simp at q0 q1 q2
  have hm := hi.short
  by_cases hlt : k < n
  · obtain ⟨b, off, z, rfl, hb, hcell, z0, z1, hz⟩ := hi.at8 hlt
    go_enter Try.func59, Try.ntmps59
    go_wp2_with fail
    go_quiet (fail)
    go_wp2_with fail
    go_quiet (fail)
    go_wp2_with fail
    go_quiet (fail)
    go_wp2_with fail
    go_ret
    obtain ⟨hs, hg⟩ := src_next hblk hi hne rfl
    exact ⟨z, k + 1, rfl, ⟨z0, z1⟩, by omega, by omega, hs, hg⟩
  · go_enter Try.func59, Try.ntmps59
    go_wp2_with fail
    go_quiet (fail)
    go_wp2_with fail
    go_quiet (fail)
    go_wp2_with fail
    go_ret
    obtain ⟨hs, hg⟩ := src_next hblk hi hne rfl
    exact ⟨_, k + 1, rfl, and255 _, by omega, by omega, hs, hg⟩
/-- A number below n; 0 where n is 1 or less. -/
def Lt1 (n r : Int) : Prop := 0 ≤ r ∧ (1 < n → r < n) ∧ (n ≤ 1 → r = 0)
theorem Lt1.lt {n r : Int} (h : Lt1 n r) (hn : 1 ≤ n) : 0 ≤ r ∧ r < n := by
  obtain ⟨h1, h2, h3⟩ := h
  by_cases h : n ≤ 1
  · have := h3 h; omega
  · exact ⟨h1, h2 (by omega)⟩
theorem lt1_mod {n x : Int} (hx : 0 ≤ x) (hn : 1 < n) : Lt1 n (x % n) := ⟨Int.emod_nonneg _ (by omega), fun _ => Int.emod_lt_of_pos _ (by omega), fun h => absurd h (by omega)⟩
theorem pick_any (q : Int) (g : Nat) (A : Option Addr) (n c : Nat) (bs : List Int) (k : Nat) (w : World) (h : Src w g A n c bs k) (hk : k ≤ 1099511627775) (hq : -9223372036854775808 ≤ q) (hq' : q ≤ 9223372036854775807) :
    Calls Try.prog 43 #[.pointer (some ⟨g, 0, none⟩), .int .i64 q] w (Asked (Lt1 q) g A n c bs k 2 w) := by
  by_cases h1 : q ≤ 1
  · go_enter Try.func43, Try.ntmps43
    go_wp2_with fail
    go_ret
    exact ⟨0, k, rfl, ⟨by omega, fun h => absurd h (by omega), fun _ => rfl⟩, by omega, by omega, h, grown_refl _ _⟩
  · by_cases h2 : 200 < q
    · go_enter Try.func43, Try.ntmps43
      go_wp2_with fail
      refine (next_any g A n c bs k _ h (by omega)).mono ?_
      rintro e w1 ⟨r, k1, rfl, ⟨r0, r1⟩, k10, k11, hs1, hg1⟩
      go_wp2_with fail
      refine (next_any g A n c bs k1 _ hs1 (by omega)).mono ?_
      rintro e w2 ⟨s, k2, rfl, ⟨s0, s1⟩, k20, k21, hs2, hg2⟩
      have hx := lt1_mod (x := r * 256 + s) (n := q) (by omega) (by omega)
      have hg3 := grown_trans hg1 hg2
      go_wp2_with fail
      go_ret
      exact ⟨_, k2, rfl, hx, by omega, by omega, hs2, hg3⟩
    · go_enter Try.func43, Try.ntmps43
      go_wp2_with fail
      refine (next_any g A n c bs k _ h (by omega)).mono ?_
      rintro e w1 ⟨r, k1, rfl, ⟨r0, r1⟩, k10, k11, hs1, hg1⟩
      have hx := lt1_mod (x := r) (n := q) (by omega) (by omega)
      go_wp2_with fail
      go_ret
      exact ⟨_, k1, rfl, hx, by omega, by omega, hs1, hg1⟩
/-- What a yes or no from the source leaves. -/
def AskedB (g : Nat) (A : Option Addr) (n c : Nat) (bs : List Int) (k m : Nat) (w : World) (e : Ending) (w' : World) : Prop :=
  ∃ (r : Bool) (k' : Nat), e = .returned (.bool r) ∧ k ≤ k' ∧ k' ≤ k + m ∧ Src w' g A n c bs k' ∧ w.grownBy w' (some g)
theorem one_any (q : Int) (g : Nat) (A : Option Addr) (n c : Nat) (bs : List Int) (k : Nat) (w : World) (h : Src w g A n c bs k) (hk : k ≤ 1099511627775) (hq : -9223372036854775808 ≤ q) (hq' : q ≤ 9223372036854775807) :
    Calls Try.prog 44 #[.pointer (some ⟨g, 0, none⟩), .int .i64 q] w (AskedB g A n c bs k 2 w) := by
  go_enter Try.func44, Try.ntmps44
  go_wp2_with fail
  refine (pick_any q g A n c bs k _ h hk hq hq').mono ?_
  rintro e w1 ⟨r, k1, rfl, hr, k10, k11, hs1, hg1⟩
  go_wp2_with fail
  go_ret
  exact ⟨_, k1, rfl, k10, k11, hs1, hg1⟩
theorem among_any (B : Option Addr) (m d : Nat) (zs : List Int) (p : Int → Prop) (g : Nat) (A : Option Addr) (n c : Nat) (bs : List Int) (k : Nat) (w : World) (h : Src w g A n c bs k) (hk : k ≤ 1099511627775)
    (hz : Ints .i64 w B m d zs) (hm : 0 < m) (hB : ∀ a, B = some a → a.block ≠ g) (hp : ∀ z ∈ zs, p z) :
    Calls Try.prog 45 #[.pointer (some ⟨g, 0, none⟩), .slice B m d] w (Asked p g A n c bs k 2 w) := by
  have hmm := hz.short
  have HP := Lib.hid hp
  have HB := Lib.hid hB
  clear hp hB
  go_enter Try.func45, Try.ntmps45
  go_wp2_with fail
  refine (pick_any m g A n c bs k _ h hk (by omega) (by omega)).mono ?_
  rintro e w1 ⟨r, k1, rfl, hr, k10, k11, hs1, hg1⟩
  obtain ⟨r0, r1⟩ := hr.lt (by omega)
  obtain ⟨j, rfl⟩ := Int.eq_ofNat_of_zero_le r0
  have hz1 := hz.kept hg1 (fun a ha e => HB.out a ha (by injection e))
  obtain ⟨b, off, z, rfl, hb, hcell, z0, z1, hzz⟩ := hz1.at (j := j) (by omega)
  go_wp2_with fail
  go_ret
  exact ⟨z, k1, rfl, HP.out z (mem_of_at hzz.out), k10, k11, hs1, hg1⟩
theorem l00From_any (A : Option Addr) (n c : Nat) (bs : List Int) (w : World) (h : Ints .u8 w A n c bs) :
    Calls Try.prog 22 #[.slice A n c] w fun e w' => ∃ g, e = .returned (.pointer (some ⟨g, 0, none⟩)) ∧ w.heap.size ≤ g ∧ Src w' g A n c bs 0 ∧ Below w.heap.size w w' := by
  go_enter Try.func22, Try.ntmps22
  go_wp2_with fail
  go_ret
  exact ⟨w.heap.size, rfl, Nat.le_refl _, ⟨0, by omega, by omega, Blk.new w _ _, h.below (bel_alloc _ _), fun hn a ha => by
    obtain ⟨b, off, hA, hb, _⟩ := h.2.2.2.2 hn
    rw [ha] at hA
    injection hA with hA
    subst hA
    exact hb⟩, bel_alloc _ _⟩
end Go.Proofs.Ytiodbjfchfmlcaa
