/- The reference's sets as lists in ascending order: the walk. -/
import Derived.Test.YtikodekffdplaaaLists
import Derived.Test.YtikodekffdplaaaLst
namespace Go.Proofs.Ytikodekffdplaaa
set_option linter.unusedVariables false
set_option linter.unusedSimpArgs false
set_option maxRecDepth 100000
open Go.RowKit Go.Deep
def bitsL (L : List Nat) : List (List Int) := L.map fun m => bitsTo m 10
theorem bitsL_len (L : List Nat) : (bitsL L).length = L.length := by simp [bitsL]
theorem bitsL_snoc {L : List Nat} {k m : Nat} (h : L[k]? = some m) : bitsL (L.take (k + 1)) = bitsL (L.take k) ++ [bitsTo m 10] := by unfold bitsL; rw [take_snoc' h, List.map_append]; rfl
theorem fst_one {w : World} {base : Nat} {ps : List (Value × List Int)} (h : MP w base ps) : ∀ u ∈ ps.map Prod.fst, u.oneCell' = true := fun u hu => by
  obtain ⟨p, hp, rfl⟩ := List.mem_map.1 hu
  obtain ⟨A, c, e, _⟩ := h.1 p hp
  rw [e]; rfl
theorem OwnP.cellAt {w : World} {base g n c j : Nat} {ps : List (Value × List Int)} {p : Value × List Int} (h : OwnP w base (some ⟨g, 0, none⟩) n c ps) (hp : ps[j]? = some p) : w.cell? ⟨g, j, none⟩ = some p.1 := by
  have := h.outer.cells (g := g) rfl j p.1 (by rw [List.getElem?_map, hp]; rfl)
  rwa [Addr.add_lit, Nat.zero_add] at this
theorem outer_lit2 (w : World) {base : Nat} (h : base ≤ w.heap.size) : (w.alloc (.cells #[] 35)).ownsRow base 35 1 (.slice (some ⟨w.heap.size, 0, none⟩) 0 0) 0 [] := by
  simpa using World.ownsRow_lit (base := base) (e := 35) (size := 1) w #[] 0 h (by unfold maxLen; omega) rfl
theorem own_below {w w' : World} {base n : Nat} {v : Value} {us : List Value} (h : w.ownsRow base 35 1 v n us) (hb : Below w.heap.size w w') : w'.ownsRow base 35 1 v n us :=
  h.kept (row := none) ⟨hb.os, hb.tape, hb.output, hb.size, fun k hk _ => hb.block k hk⟩ (by cases v.ownBlock <;> simp)
theorem own_mono {w : World} {base b2 n : Nat} {v : Value} {us : List Value} (h : w.ownsRow base 35 1 v n us) (hb : b2 ≤ base) : w.ownsRow b2 35 1 v n us :=
  ⟨h.1, h.2.imp id fun ⟨g, cap, cur, h1, h2, h3⟩ => ⟨g, cap, cur, h1, Nat.le_trans hb h2, h3⟩⟩
theorem one_cells (w : World) (v : Value) : ∀ j u, [v][j]? = some u → (w.alloc (.cells #[v] 35)).cell? (Addr.add ⟨w.heap.size, 0, none⟩ j) = some u := fun j u h => by
  cases j with
  | zero => rw [Addr.add_lit]; simp at h; subst h; exact (Cs.new w [v] 35).cell 0 rfl
  | succ j => simp at h
theorem OwnP.tail {w : World} {base g n c j : Nat} {ps : List (Value × List Int)} (h : OwnP w base (some ⟨g, 0, none⟩) n c ps) : ∀ i u, ((ps.map Prod.fst).drop j)[i]? = some u → w.cell? (Addr.add ⟨g, j, none⟩ i) = some u := fun i u hu => by
  rw [List.getElem?_drop] at hu
  have := h.outer.cells (g := g) rfl (j + i) u hu
  rw [Addr.add_lit, Nat.zero_add] at this
  rwa [Addr.add_lit]
theorem OwnP.front {w : World} {base g n c j : Nat} {ps : List (Value × List Int)} (h : OwnP w base (some ⟨g, 0, none⟩) n c ps) : ∀ i u, ((ps.map Prod.fst).take j)[i]? = some u → w.cell? (Addr.add ⟨g, 0, none⟩ i) = some u := fun i u hu => by
  have hi := (List.getElem?_eq_some_iff.1 hu).1
  rw [List.getElem?_take_of_lt (by simp at hi; omega)] at hu
  exact h.outer.cells (g := g) rfl i u hu
theorem MP.ones {w : World} {base : Nat} {ps : List (Value × List Int)} (h : MP w base ps) (f : List Value → List Value) (hf : ∀ l, ∀ u ∈ f l, u ∈ l) : ∀ u ∈ f (ps.map Prod.fst), u.oneCell' = true := fun u hu => fst_one h u (hf _ u hu)
theorem MP.cons {w : World} {base : Nat} {ps : List (Value × List Int)} {A : Option Addr} {c : Nat} {z : List Int} (h : MP w base ps) (o : OwnI w base A z.length c z) (hn : ∀ p ∈ ps, Apart p.1 (.slice A z.length c)) : MP w base ((.slice A z.length c, z) :: ps) :=
  ⟨fun p hp => by
    rcases List.mem_cons.1 hp with rfl | hp
    · exact ⟨A, c, rfl, o⟩
    · exact h.1 p hp, List.pairwise_cons.2 ⟨fun p hp => (hn p hp).symm, h.2⟩⟩
theorem OwnP.put {w w' : World} {base c m j : Nat} {A' : Option Addr} {c' : Nat} {v : Value} {z : List Int} {ps : List (Value × List Int)} (P : MP w base ((v, z) :: ps)) (hb : Below w.heap.size w w')
    (o : w'.ownsRow base 35 1 (.slice A' m c') m ((ps.map Prod.fst).take j ++ [v] ++ (ps.map Prod.fst).drop j)) : OwnP w' base A' m c' (ps.take j ++ (v, z) :: ps.drop j) := by
  refine ⟨?_, (P.perm ?_).below hb⟩
  · rw [show (ps.take j ++ (v, z) :: ps.drop j).map Prod.fst = (ps.map Prod.fst).take j ++ [v] ++ (ps.map Prod.fst).drop j by simp [List.map_take, List.map_drop]]
    exact o
  · have := (List.perm_middle (a := (v, z)) (l₁ := ps.take j) (l₂ := ps.drop j)).symm
    rwa [List.take_append_drop] at this
theorem own_form {w : World} {base n c : Nat} {A : Option Addr} {us : List Value} (h : w.ownsRow base 35 1 (.slice A n c) n us) (hn : 0 < n) : ∃ g, A = some ⟨g, 0, none⟩ := by
  rcases h.2 with ⟨h1, h2⟩ | ⟨g, cap, cur, hv, _⟩
  · omega
  · simp only [Value.slice.injEq] at hv
    exact ⟨g, hv.1⟩
theorem perm_put {l b : List (List Int)} {z : List Int} {j : Nat} (h : l.Perm b) : (l.take j ++ z :: l.drop j).Perm (b ++ [z]) := by
  refine List.perm_middle.trans ?_
  rw [List.take_append_drop]
  exact (h.cons z).trans (List.perm_append_singleton z b).symm
theorem snd_put {ps : List (Value × List Int)} {v : Value} {z : List Int} {j : Nat} : (ps.take j ++ (v, z) :: ps.drop j).map Prod.snd = (ps.map Prod.snd).take j ++ z :: (ps.map Prod.snd).drop j := by simp [List.map_take, List.map_drop]
set_option maxHeartbeats 4000000 in
theorem l08Lists_ok (A : Option Addr) (c : Nat) (L : List Nat) (hL : ∀ m ∈ L, m < 1024) (hl : L.length ≤ 1024) (w : World) (h : Ints .i64 w A L.length c (nI L)) :
    Calls Try.prog 31 #[.slice A L.length c] w fun e w' => ∃ A' c' vs, e = .returned (.slice A' (srtL (bitsL L)).length c') ∧ OwnM w' w.heap.size A' (srtL (bitsL L)).length c' vs (srtL (bitsL L)) ∧ Below w.heap.size w w' := by
  have H := Lib.hid h
  have LB := Lib.hid hL
  have O0 := Lib.hid (show OwnP (w.alloc (.cells #[] 35)) w.heap.size (some ⟨w.heap.size, 0, none⟩) 0 0 [] from ⟨outer_lit w, ⟨by simp, .nil⟩⟩)
  have B0 := Lib.hid (bel_alloc w (.cells #[] 35))
  clear h hL
  go_enter Try.func31, Try.ntmps31
  go_wp2_with fail
  go_loopw [3, 4] (fun o t wr => ∃ (k g c' : Nat) (ps : List (Value × List Int)), k ≤ L.length ∧ t = .int .i64 k ∧ o = .slice (some ⟨g, 0, none⟩) k c' ∧ OwnP wr w.heap.size (some ⟨g, 0, none⟩) k c' ps ∧ Hid (Asc (ps.map Prod.snd) ∧ (ps.map Prod.snd).Perm (bitsL (L.take k))) ∧ Below w.heap.size w wr) (fun _ t _ => L.length - (intOf t).toNat)
  case atStart => exact ⟨0, w.heap.size, 0, [], Nat.zero_le _, rfl, rfl, O0.out, ⟨List.Pairwise.nil, List.Perm.refl _⟩, B0.out⟩
  case round =>
    obtain ⟨k, g, c', ps, hk, rfl, rfl, hO, AS, hB⟩ := hrel
    have HO := Lib.hid hO
    have HB := Lib.hid hB
    have HPL := Lib.hid hO.len
    have kc : k ≤ c' := hO.toM.rws.2.1
    clear hO hB O0 B0
    by_cases hlt : k < L.length
    · obtain ⟨m, hm⟩ : ∃ m, L[k]? = some m := ⟨_, List.getElem?_eq_getElem hlt⟩
      have hm10 := LB.out m (List.mem_of_getElem? hm)
      obtain ⟨b, off, e1, cm⟩ := (H.out.below HB.out).get (nI_at hm)
      subst e1
      have hd := decide_eq_true (show (k : Int) < (L.length : Int) by omega)
      have k0 : (0 : Int) ≤ (k : Int) := by omega
      have k1 : (k : Int) < (L.length : Int) := by omega
      have BS := Lib.hid (bitsL_snoc hm)
      clear hm
      go_wp2_with fail
      refine (l08List_ok m hm10 _).mono ?_
      rintro e w1 ⟨A1, c1, rfl, o1, u1⟩
      have szr := u1.size
      obtain ⟨z, hz⟩ : ∃ z, bitsTo m 10 = z := ⟨_, rfl⟩
      rw [hz] at BS o1 ⊢
      have O1 := Lib.hid o1
      have P1 := Lib.hid (HO.out.below u1)
      have B1 := Lib.hid (bel_trans HB.out u1)
      have NEW := Lib.hid (fun p hp => (show Apart (p : Value × List Int).1 (.slice A1 z.length c1) from by
        rcases Classical.em ((Value.slice A1 z.length c1).ownBlock = none) with e | e
        · exact (show Apart (.slice A1 z.length c1) p.1 from .inl e).symm
        · refine .inr fun e2 => ?_
          cases hb : (Value.slice A1 z.length c1).ownBlock with
          | none => exact e hb
          | some x =>
            have h1 := (o1.block x hb).1
            have h2 := (HO.out.rows.blocks p hp x (e2.trans hb)).2
            omega))
      have M1 := Lib.hid (P1.out.rows.cons (o1.mono (by have := HB.out.size; omega)) (fun p hp => NEW.out p hp))
      clear o1 u1 hz
      go_wp2_with fail
      go_loopw [6] (fun t wr => ∃ j : Nat, j ≤ k ∧ t = .int .i64 j ∧ Hid (∀ i q, j ≤ i → (ps.map Prod.snd)[i]? = some q → cmpL z q < 0) ∧ Below w1.heap.size w1 wr) (fun t _ => (intOf t).toNat)
      case atStart => exact ⟨k, Nat.le_refl _, rfl, fun i q hi hq => by have := (List.getElem?_eq_some_iff.1 hq).1; have := HPL.out; simp at *; omega, Below.refl _ _⟩
      case round =>
        obtain ⟨j, hj, rfl, K1, hb2⟩ := hrel
        have B2 := Lib.hid hb2
        clear hb2
        by_cases hj0 : 0 < j
        · have d0 := decide_eq_true (show (0 : Int) < (j : Int) by omega)
          obtain ⟨p, hp⟩ : ∃ p, ps[j - 1]? = some p := ⟨_, List.getElem?_eq_getElem (by have := HPL.out; omega)⟩
          have P2 := P1.out.below B2.out
          obtain ⟨Ap, cp, ep, op⟩ := P2.rows.1 p (List.mem_of_getElem? hp)
          have cc := P2.cellAt hp
          rw [ep] at cc
          have ew : IntKind.i64.wrap ((j : Int) - 1) = ((j - 1 : Nat) : Int) := by rw [show ((j - 1 : Nat) : Int) = (j : Int) - 1 by omega]; exact IntWalk.i64_in _ (by omega)
          have LS := Lib.hid (l08Less_any A1 z.length c1 z Ap p.2.length cp p.2 _ (O1.out.below B2.out).ints op.ints)
          have i0 : (0 : Int) ≤ ((j - 1 : Nat) : Int) := by omega
          have i1 : ((j - 1 : Nat) : Int) < (k : Int) := by omega
          have hsnd : (ps.map Prod.snd)[j - 1]? = some p.2 := by rw [List.getElem?_map, hp]; rfl
          by_cases hc : cmpL z p.2 < 0
          · rw [decide_eq_true hc] at LS
            have K2 := Lib.hid (fun i q (hi : j - 1 ≤ i) (hq : (ps.map Prod.snd)[i]? = some q) => (show cmpL z q < 0 from by
              by_cases e : i = j - 1
              · subst e; rw [hsnd] at hq; injection hq with hq; rw [← hq]; exact hc
              · exact K1.out i q (by omega) hq))
            clear hp ep op hc hsnd P2
            go_wp2_with fail
            refine LS.out.mono ?_
            rintro e w2 ⟨rfl, u2⟩
            have B3 := Lib.hid (bel_trans B2.out u2)
            clear u2
            go_wp2_with fail
            go_roundw
            case rel => exact ⟨j - 1, by omega, rfl, K2.out, B3.out⟩
            case measure => simp [intOf]; omega
          · rw [decide_eq_false hc] at LS
            have K2 := Lib.hid (show j = 0 ∨ ∃ q, (ps.map Prod.snd)[j - 1]? = some q ∧ ¬ cmpL z q < 0 from .inr ⟨_, hsnd, hc⟩)
            clear hp ep op hc hsnd P2
            go_wp2_with fail
            refine LS.out.mono ?_
            rintro e w2 ⟨rfl, u2⟩
            have B3 := Lib.hid (bel_trans B2.out u2)
            clear u2 LS
            have P3 := Lib.hid (P1.out.below B3.out)
            have M3 := Lib.hid (M1.out.below B3.out)
            have B4 := Lib.hid (bel_trans B1.out B3.out)
            have sz4 := B4.out.size
            have j0 : (0 : Int) ≤ (j : Int) := by omega
            have jc : (j : Int) ≤ (c' : Int) := by omega
            have jk : (j : Int) ≤ (k : Int) := by omega
            have OL := Lib.hid (outer_lit2 (base := w2.heap.size) w2 (by omega))
            have BA := Lib.hid (bel_alloc w2 (.cells #[] 35))
            have sa : w2.heap.size ≤ (w2.alloc (.cells #[] 35)).heap.size := by simp
            have PA := Lib.hid (P3.out.below BA.out)
            clear d0
            rcases Classical.em (c' = j) with hcj | hcj
            · have e1 : j = k := by omega
              have e2 : j = c' := by omega
              subst e1
              subst e2
              clear hcj jk jc hj kc
              go_wp2_with (first
                | (at_builtin; refine app_outer (w2.alloc (.cells #[] 35)) rfl _ _ rfl w2.heap.size (some ⟨w2.heap.size, 0, none⟩) 0 0 [] rfl OL.out ⟨g, 0, none⟩ j j ((ps.map Prod.fst).take j) rfl (by have := HPL.out; simp; omega) PA.out.front (PA.out.rows.ones (List.take j) fun l u hu => List.mem_of_mem_take hu) (by omega) (by omega) sa ?_; intro A7 c7 w7 p1 p2; rw [Nat.zero_add, List.nil_append] at p1; have P7 := Lib.hid p1; have B7 := Lib.hid (BA.out.grown p2 sa (fun k hk => by simp [Value.ownBlock] at hk; omega)); have s7 := B7.out.size; clear p1 p2)
                | (at_builtin; refine app_outer (w7.alloc (.cells #[.slice A1 z.length c1] 35)) rfl _ _ rfl w2.heap.size A7 j c7 ((ps.map Prod.fst).take j) rfl (own_below P7.out (bel_alloc w7 _)) ⟨w7.heap.size, 0, none⟩ 1 1 [.slice A1 z.length c1] rfl rfl (one_cells w7 _) (by simp [Value.oneCell']) (by omega) (by omega) (by simp; omega) ?_; intro A8 c8 w8 p1 p2; have P8 := Lib.hid p1; have B8 := Lib.hid ((bel_trans B7.out (bel_alloc w7 (.cells #[.slice A1 z.length c1] 35))).grown p2 (by simp; omega) (fun k hk => (P7.out.lt k hk).1)); have s8 := B8.out.size; have PT := Lib.hid (P3.out.below B8.out); clear p1 p2)
                | (at_builtin; refine app_outer w8 rfl _ _ rfl w2.heap.size A8 (j + 1) c8 _ rfl P8.out ⟨g, 0, none⟩ 0 0 ((ps.map Prod.fst).drop j) rfl (by have := HPL.out; simp; omega) (fun i u hu => by have h1 := (List.getElem?_eq_some_iff.1 hu).1; have h2 := HPL.out; rw [List.length_drop, List.length_map] at h1; omega) (PT.out.rows.ones (List.drop j) fun l u hu => List.mem_of_mem_drop hu) (by omega) (by omega) (by omega) ?_; intro A9 c9 w9 p1 p2; rw [show j + 1 + 0 = j + 1 by omega] at p1 ⊢; obtain ⟨g9, rfl⟩ := own_form p1 (by omega); have P9 := Lib.hid p1; have B9 := Lib.hid (B8.out.grown p2 (by omega) (fun k hk => (P8.out.lt k hk).1)); clear p1 p2))
              have PP := Lib.hid (OwnP.put (c := 0) M3.out B9.out (own_mono P9.out sz4))
              clear P9 P8 P7 PT PA OL BA M3 P3
              go_roundw
              case rel => exact ⟨j + 1, g9, c9, _, by omega, by go_num, rfl, PP.out, ⟨by rw [snd_put]; exact asc_put AS.out.1 (by rw [List.length_map]; have := HPL.out; omega) K1.out (K2.out.imp id fun ⟨q, h1, h2⟩ => ⟨q, h1, by omega⟩), by rw [snd_put, BS.out]; exact perm_put AS.out.2⟩, bel_trans B4.out B9.out⟩
              case measure => simp [intOf]; omega
            · go_wp2_with (first
                | (at_builtin; refine app_outer (w2.alloc (.cells #[] 35)) rfl _ _ rfl w2.heap.size (some ⟨w2.heap.size, 0, none⟩) 0 0 [] rfl OL.out ⟨g, 0, none⟩ j c' ((ps.map Prod.fst).take j) rfl (by have := HPL.out; simp; omega) PA.out.front (PA.out.rows.ones (List.take j) fun l u hu => List.mem_of_mem_take hu) (by omega) (by omega) sa ?_; intro A7 c7 w7 p1 p2; rw [Nat.zero_add, List.nil_append] at p1; have P7 := Lib.hid p1; have B7 := Lib.hid (BA.out.grown p2 sa (fun k hk => by simp [Value.ownBlock] at hk; omega)); have s7 := B7.out.size; clear p1 p2)
                | (at_builtin; refine app_outer (w7.alloc (.cells #[.slice A1 z.length c1] 35)) rfl _ _ rfl w2.heap.size A7 j c7 ((ps.map Prod.fst).take j) rfl (own_below P7.out (bel_alloc w7 _)) ⟨w7.heap.size, 0, none⟩ 1 1 [.slice A1 z.length c1] rfl rfl (one_cells w7 _) (by simp [Value.oneCell']) (by omega) (by omega) (by simp; omega) ?_; intro A8 c8 w8 p1 p2; have P8 := Lib.hid p1; have B8 := Lib.hid ((bel_trans B7.out (bel_alloc w7 (.cells #[.slice A1 z.length c1] 35))).grown p2 (by simp; omega) (fun k hk => (P7.out.lt k hk).1)); have s8 := B8.out.size; have PT := Lib.hid (P3.out.below B8.out); clear p1 p2)
                | (at_builtin; refine app_outer w8 rfl _ _ rfl w2.heap.size A8 (j + 1) c8 _ rfl P8.out ⟨g, j, none⟩ (k - j) (c' - j) ((ps.map Prod.fst).drop j) rfl (by have := HPL.out; simp; omega) PT.out.tail (PT.out.rows.ones (List.drop j) fun l u hu => List.mem_of_mem_drop hu) (by omega) (by omega) (by omega) ?_; intro A9 c9 w9 p1 p2; rw [show j + 1 + (k - j) = k + 1 by omega] at p1 ⊢; obtain ⟨g9, rfl⟩ := own_form p1 (by omega); have P9 := Lib.hid p1; have B9 := Lib.hid (B8.out.grown p2 (by omega) (fun k hk => (P8.out.lt k hk).1)); clear p1 p2))
              have PP := Lib.hid (OwnP.put (c := 0) M3.out B9.out (own_mono P9.out sz4))
              clear P9 P8 P7 PT PA OL BA M3 P3
              go_roundw
              case rel => exact ⟨k + 1, g9, c9, _, by omega, by go_num, rfl, PP.out, ⟨by rw [snd_put]; exact asc_put AS.out.1 (by rw [List.length_map]; have := HPL.out; omega) K1.out (K2.out.imp id fun ⟨q, h1, h2⟩ => ⟨q, h1, by omega⟩), by rw [snd_put, BS.out]; exact perm_put AS.out.2⟩, bel_trans B4.out B9.out⟩
              case measure => simp [intOf]; omega
        · have d0 := decide_eq_false (show ¬ (0 : Int) < (j : Int) by omega)
          have K2 := Lib.hid (show j = 0 ∨ ∃ q, (ps.map Prod.snd)[j - 1]? = some q ∧ ¬ cmpL z q < 0 from .inl (by omega))
          have B3 := Lib.hid B2.out
          obtain ⟨w2, hw2⟩ : ∃ x, wr = x := ⟨_, rfl⟩
          rw [hw2] at B2 B3 ⊢
          clear hw2
          have P3 := Lib.hid (P1.out.below B3.out)
          have M3 := Lib.hid (M1.out.below B3.out)
          have B4 := Lib.hid (bel_trans B1.out B3.out)
          have sz4 := B4.out.size
          have j0 : (0 : Int) ≤ (j : Int) := by omega
          have jc : (j : Int) ≤ (c' : Int) := by omega
          have jk : (j : Int) ≤ (k : Int) := by omega
          have OL := Lib.hid (outer_lit2 (base := w2.heap.size) w2 (by omega))
          have BA := Lib.hid (bel_alloc w2 (.cells #[] 35))
          have sa : w2.heap.size ≤ (w2.alloc (.cells #[] 35)).heap.size := by simp
          have PA := Lib.hid (P3.out.below BA.out)
          clear d0
          rcases Classical.em (c' = j) with hcj | hcj
          · have e1 : j = k := by omega
            have e2 : j = c' := by omega
            subst e1
            subst e2
            clear hcj jk jc hj kc
            go_wp2_with (first
              | (at_builtin; refine app_outer (w2.alloc (.cells #[] 35)) rfl _ _ rfl w2.heap.size (some ⟨w2.heap.size, 0, none⟩) 0 0 [] rfl OL.out ⟨g, 0, none⟩ j j ((ps.map Prod.fst).take j) rfl (by have := HPL.out; simp; omega) PA.out.front (PA.out.rows.ones (List.take j) fun l u hu => List.mem_of_mem_take hu) (by omega) (by omega) sa ?_; intro A7 c7 w7 p1 p2; rw [Nat.zero_add, List.nil_append] at p1; have P7 := Lib.hid p1; have B7 := Lib.hid (BA.out.grown p2 sa (fun k hk => by simp [Value.ownBlock] at hk; omega)); have s7 := B7.out.size; clear p1 p2)
              | (at_builtin; refine app_outer (w7.alloc (.cells #[.slice A1 z.length c1] 35)) rfl _ _ rfl w2.heap.size A7 j c7 ((ps.map Prod.fst).take j) rfl (own_below P7.out (bel_alloc w7 _)) ⟨w7.heap.size, 0, none⟩ 1 1 [.slice A1 z.length c1] rfl rfl (one_cells w7 _) (by simp [Value.oneCell']) (by omega) (by omega) (by simp; omega) ?_; intro A8 c8 w8 p1 p2; have P8 := Lib.hid p1; have B8 := Lib.hid ((bel_trans B7.out (bel_alloc w7 (.cells #[.slice A1 z.length c1] 35))).grown p2 (by simp; omega) (fun k hk => (P7.out.lt k hk).1)); have s8 := B8.out.size; have PT := Lib.hid (P3.out.below B8.out); clear p1 p2)
              | (at_builtin; refine app_outer w8 rfl _ _ rfl w2.heap.size A8 (j + 1) c8 _ rfl P8.out ⟨g, 0, none⟩ 0 0 ((ps.map Prod.fst).drop j) rfl (by have := HPL.out; simp; omega) (fun i u hu => by have h1 := (List.getElem?_eq_some_iff.1 hu).1; have h2 := HPL.out; rw [List.length_drop, List.length_map] at h1; omega) (PT.out.rows.ones (List.drop j) fun l u hu => List.mem_of_mem_drop hu) (by omega) (by omega) (by omega) ?_; intro A9 c9 w9 p1 p2; rw [show j + 1 + 0 = j + 1 by omega] at p1 ⊢; obtain ⟨g9, rfl⟩ := own_form p1 (by omega); have P9 := Lib.hid p1; have B9 := Lib.hid (B8.out.grown p2 (by omega) (fun k hk => (P8.out.lt k hk).1)); clear p1 p2))
            have PP := Lib.hid (OwnP.put (c := 0) M3.out B9.out (own_mono P9.out sz4))
            clear P9 P8 P7 PT PA OL BA M3 P3
            go_roundw
            case rel => exact ⟨j + 1, g9, c9, _, by omega, by go_num, rfl, PP.out, ⟨by rw [snd_put]; exact asc_put AS.out.1 (by rw [List.length_map]; have := HPL.out; omega) K1.out (K2.out.imp id fun ⟨q, h1, h2⟩ => ⟨q, h1, by omega⟩), by rw [snd_put, BS.out]; exact perm_put AS.out.2⟩, bel_trans B4.out B9.out⟩
            case measure => simp [intOf]; omega
          · go_wp2_with (first
              | (at_builtin; refine app_outer (w2.alloc (.cells #[] 35)) rfl _ _ rfl w2.heap.size (some ⟨w2.heap.size, 0, none⟩) 0 0 [] rfl OL.out ⟨g, 0, none⟩ j c' ((ps.map Prod.fst).take j) rfl (by have := HPL.out; simp; omega) PA.out.front (PA.out.rows.ones (List.take j) fun l u hu => List.mem_of_mem_take hu) (by omega) (by omega) sa ?_; intro A7 c7 w7 p1 p2; rw [Nat.zero_add, List.nil_append] at p1; have P7 := Lib.hid p1; have B7 := Lib.hid (BA.out.grown p2 sa (fun k hk => by simp [Value.ownBlock] at hk; omega)); have s7 := B7.out.size; clear p1 p2)
              | (at_builtin; refine app_outer (w7.alloc (.cells #[.slice A1 z.length c1] 35)) rfl _ _ rfl w2.heap.size A7 j c7 ((ps.map Prod.fst).take j) rfl (own_below P7.out (bel_alloc w7 _)) ⟨w7.heap.size, 0, none⟩ 1 1 [.slice A1 z.length c1] rfl rfl (one_cells w7 _) (by simp [Value.oneCell']) (by omega) (by omega) (by simp; omega) ?_; intro A8 c8 w8 p1 p2; have P8 := Lib.hid p1; have B8 := Lib.hid ((bel_trans B7.out (bel_alloc w7 (.cells #[.slice A1 z.length c1] 35))).grown p2 (by simp; omega) (fun k hk => (P7.out.lt k hk).1)); have s8 := B8.out.size; have PT := Lib.hid (P3.out.below B8.out); clear p1 p2)
              | (at_builtin; refine app_outer w8 rfl _ _ rfl w2.heap.size A8 (j + 1) c8 _ rfl P8.out ⟨g, j, none⟩ (k - j) (c' - j) ((ps.map Prod.fst).drop j) rfl (by have := HPL.out; simp; omega) PT.out.tail (PT.out.rows.ones (List.drop j) fun l u hu => List.mem_of_mem_drop hu) (by omega) (by omega) (by omega) ?_; intro A9 c9 w9 p1 p2; rw [show j + 1 + (k - j) = k + 1 by omega] at p1 ⊢; obtain ⟨g9, rfl⟩ := own_form p1 (by omega); have P9 := Lib.hid p1; have B9 := Lib.hid (B8.out.grown p2 (by omega) (fun k hk => (P8.out.lt k hk).1)); clear p1 p2))
            have PP := Lib.hid (OwnP.put (c := 0) M3.out B9.out (own_mono P9.out sz4))
            clear P9 P8 P7 PT PA OL BA M3 P3
            go_roundw
            case rel => exact ⟨k + 1, g9, c9, _, by omega, by go_num, rfl, PP.out, ⟨by rw [snd_put]; exact asc_put AS.out.1 (by rw [List.length_map]; have := HPL.out; omega) K1.out (K2.out.imp id fun ⟨q, h1, h2⟩ => ⟨q, h1, by omega⟩), by rw [snd_put, BS.out]; exact perm_put AS.out.2⟩, bel_trans B4.out B9.out⟩
            case measure => simp [intOf]; omega
    · obtain rfl : k = L.length := by omega
      have d0 := decide_eq_false (show ¬ (L.length : Int) < (L.length : Int) by omega)
      have E := Lib.hid (show ps.map Prod.snd = srtL (bitsL L) from srtL_of AS.out.1 (by have := AS.out.2; rwa [List.take_length] at this))
      have EL : (srtL (bitsL L)).length = L.length := by rw [srtL_len, bitsL_len]
      have OM := Lib.hid HO.out.toM
      rw [E.out, ← EL] at OM
      clear AS
      go_wp2_with fail
      go_ret
      exact ⟨some ⟨g, 0, none⟩, c', _, by rw [EL]; rfl, OM.out, HB.out⟩
end Go.Proofs.Ytikodekffdplaaa
