/- Drawn statutes and patches. -/
import Derived.Test.YtcoladhppbknnaaApl5
import Derived.Test.YtcoladhppbknnaaBo
import Derived.Deep.Cut
import Derived.Deep.CutBlock
import Derived.Deep.CutRange
namespace Go.Proofs.Ytcoladhppbknnaa
set_option linter.unusedVariables false
set_option linter.unusedSimpArgs false
set_option maxRecDepth 100000
open Go.RowKit Go.Deep
def AskedS (p : ByteArray → Prop) (g : Nat) (A : Option Addr) (n c : Nat) (bs : List Int) (k m : Nat) (w : World) (e : Ending) (w' : World) : Prop :=
  ∃ (t : ByteArray) (k' : Nat), e = .returned (.string t) ∧ p t ∧ k ≤ k' ∧ k' ≤ k + m ∧ Src w' g A n c bs k' ∧ w.grownBy w' (some g)
theorem ne_lt' {v : Value} {base g : Nat} (h : ∀ x, v.ownBlock = some x → base ≤ x) (hg : g < base) : v.ownBlock = none ∨ v.ownBlock ≠ some g := by
  cases hv : v.ownBlock with
  | none => exact .inl rfl
  | some x => exact .inr (fun e => by injection e with e; have := h x hv; omega)
theorem text_any (b m : Nat) (p : ByteArray → Prop) (g : Nat) (A : Option Addr) (n c : Nat) (bs : List Int) (k : Nat) (w : World) (h : Src w g A n c bs k) (hk : k ≤ 1099511627775)
    (hm : 0 < m) (hm2 : m ≤ 1000) (hb : b < w.heap.size) (hg : b ≠ g) (hz : Hid (∀ j, j < m → ∃ t, w.cell? ⟨b, j, none⟩ = some (.string t) ∧ p t)) :
    Calls Try.prog 124 #[.pointer (some ⟨g, 0, none⟩), .slice (some ⟨b, 0, none⟩) m m] w (AskedS p g A n c bs k 2 w) := by
  go_enter Try.func124, Try.ntmps124
  go_wp2_with fail
  refine (pick_any m g A n c bs k _ h hk (by omega) (by omega)).mono ?_
  rintro e w1 ⟨r, k1, rfl, hr, k10, k11, hs1, hg1⟩
  obtain ⟨r0, r1⟩ := hr.lt (by omega)
  obtain ⟨j, rfl⟩ := Int.eq_ofNat_of_zero_le r0
  obtain ⟨t, ht, hp⟩ := hz.out j (by omega)
  have hc : w1.cell? ⟨b, j, none⟩ = some (.string t) := (World.cell?_of_block (w := w) (hg1.block b hb (by simpa using hg))).trans ht
  have HP := Lib.hid hp
  have HS := Lib.hid hs1
  have HG := Lib.hid hg1
  clear hp hs1 hg1 hr ht
  go_wp2_with fail
  go_ret
  exact ⟨t, k1, rfl, HP.out, by omega, by omega, HS.out, HG.out⟩
def sentL : List Value := [.string ⟨#[97]⟩, .string ⟨#[98]⟩, .string ⟨#[100, 111, 103, 115, 32, 97, 114, 101, 32, 108, 101, 100]⟩, .string ⟨#[100, 111, 103, 115, 32, 97, 114, 101, 32, 102, 114, 101, 101]⟩, .string ⟨#[116, 104, 101, 32, 103, 97, 116, 101, 32, 105, 115, 32, 115, 104, 117, 116]⟩, .string ⟨#[114, 117, 108, 101, 32, 55]⟩, .string ⟨#[112, 97, 121, 32, 51, 32, 97, 32, 121, 101, 97, 114]⟩, .string ⟨#[120, 32, 121, 32, 122]⟩, .string ⟨#[97, 98, 99, 100, 101, 102, 103, 104, 105, 106, 107, 108, 109, 110, 111, 112, 113, 114, 115, 116, 117, 118, 119, 120]⟩, .string ⟨#[110, 111]⟩]
theorem sent_at : ∀ j, j < 10 → ∃ t, sentL[j]? = some (.string t) ∧ senB t = true
  | 0, _ => ⟨_, rfl, by decide⟩
  | 1, _ => ⟨_, rfl, by decide⟩
  | 2, _ => ⟨_, rfl, by decide⟩
  | 3, _ => ⟨_, rfl, by decide⟩
  | 4, _ => ⟨_, rfl, by decide⟩
  | 5, _ => ⟨_, rfl, by decide⟩
  | 6, _ => ⟨_, rfl, by decide⟩
  | 7, _ => ⟨_, rfl, by decide⟩
  | 8, _ => ⟨_, rfl, by decide⟩
  | 9, _ => ⟨_, rfl, by decide⟩
  | n + 10, h => absurd h (by omega)
set_option maxHeartbeats 1000000 in
theorem sentence_any (g : Nat) (A : Option Addr) (n c : Nat) (bs : List Int) (k : Nat) (w : World) (h : Src w g A n c bs k) (hk : k ≤ 1099511627000) :
    Calls Try.prog 106 #[.pointer (some ⟨g, 0, none⟩)] w (AskedS (fun t => senB t = true) g A n c bs k 2 w) := by
  have HS := Lib.hid h
  have hl := h.lt
  have ba := bel_alloc w (.cells sentL.toArray 9)
  have C := Cs.new w sentL 9
  have TX := Lib.hid (text_any w.heap.size 10 (fun t => senB t = true) g A n c bs k (w.alloc (.cells sentL.toArray 9)) (h.kept ba) (by omega) (by omega) (by omega) (by simp) (by omega) (fun j hj => by
    obtain ⟨t, ht, hp⟩ := sent_at j hj
    exact ⟨t, C.cell j ht, hp⟩))
  have G0 := Lib.hid (show w.grownBy (w.alloc (.cells sentL.toArray 9)) (some g) from World.grownBy_alloc _ _ _)
  clear h ba C
  go_enter Try.func106, Try.ntmps106
  go_wp2_with fail
  refine Calls.mono (show Calls Try.prog _ _ _ _ from TX.out) ?_
  rintro e w1 ⟨t, k1, rfl, hp, k10, k11, hs1, hg1⟩
  have HP := Lib.hid hp
  have HS1 := Lib.hid hs1
  have HG1 := Lib.hid (grown_trans G0.out hg1)
  clear hp hs1 hg1 TX G0
  go_wp2_with fail
  go_ret
  exact ⟨t, k1, rfl, HP.out, by omega, by omega, HS1.out, HG1.out⟩
/-- Statutes as they are drawn. -/
structure SD (s : List Ar) : Prop where
  ok : SOk s
  len : s.length ≤ 8
  ids : ∀ a ∈ s, a.id ≤ 16 ∨ a.id = 99
theorem arsO_lit (w : World) : ArsO (w.alloc (.cells #[] 70)) w.heap.size (some ⟨w.heap.size, 0, none⟩) 0 0 [] := ownR_lits (rs := []) w (by simp) (by unfold maxLen; simp)
theorem SOk.snoc {s : List Ar} (h : SOk s) {id : Int} {t : ByteArray} (hi : ∀ a ∈ s, a.id < id) (h1 : 1 ≤ id ∧ id ≤ 99) (ht : senB t = true) : SOk (s ++ [⟨id, t⟩]) := by
  refine ⟨?_, fun a ha => ?_, fun a ha => ?_⟩
  · rw [List.pairwise_append]
    exact ⟨h.srt, List.pairwise_singleton _ _, fun a ha b hb => by rw [List.mem_singleton] at hb; subst hb; exact hi a ha⟩
  · rcases List.mem_append.1 ha with ha | ha
    · exact h.txt a ha
    · rw [List.mem_singleton] at ha; subst ha; exact ht
  · rcases List.mem_append.1 ha with ha | ha
    · exact h.rng a ha
    · rw [List.mem_singleton] at ha; subst ha; exact h1
theorem ArsO.snoc {w : World} {base n c : Nat} {A : Option Addr} {es : List Ar} {a : Ar} (h : OwnR 70 2 w base A (n + 1) c (es.map Ar.vals ++ [a.vals])) : ArsO w base A (n + 1) c (es ++ [a]) := by
  unfold ArsO
  rw [List.map_append]
  exact h
/-- append of one article. -/
theorem app_ar1 {ops : Array Oper} {rest : List Oper} {o : Oper} {a : Act} {Q : Exit → Act → World → Prop} (w : World) (hgd : o.guard = none) (s x : Operand)
    (ho : o.op = .call { callee := .builtin .append, args := #[s, x], argTypes := #[37, 37] }) (base : Nat)
    (A : Option Addr) (n c : Nat) (es : List Ar) (hs : a.eval s = .slice A n c) (hown : ArsO w base A n c es) (e : Ar)
    (hx : a.eval x = .slice (some ⟨w.heap.size, 0, none⟩) 1 1) (hn : n ≤ 1048576) (hbase : base ≤ w.heap.size)
    (h : ∀ A' c' w1, ArsO w1 base A' (n + 1) c' (es ++ [e]) → w.grownBy w1 (Value.slice A n c).ownBlock → wpList Try.prog ops Q rest (a.put o.dst (.slice A' (n + 1) c')) w1) :
    wpList Try.prog ops Q (o :: rest) a (w.alloc (.cells #[.int .i64 e.id, .string e.text] 70)) := by
  obtain ⟨i0, hi, hz0, hz1, hz2⟩ := info_parts info_ar
  refine app_rec w hgd s x _ _ ho base i0 _ 2 24 Try.underlying37 hi hz0 hz1 hz2 rfl (by omega) A n c _ hs hown e.vals rfl (by intro u hu; simp [Ar.vals] at hu; rcases hu with rfl | rfl <;> rfl) hx (by unfold maxLen; omega) (by omega) hbase ?_
  intro A' c' w1 p1 p2 _
  exact h A' c' w1 (ArsO.snoc p1) p2
def DrawnS (g : Nat) (An : Option Addr) (nn cn : Nat) (bs : List Int) (k : Nat) (w : World) (e : Ending) (w' : World) : Prop :=
  ∃ (s : List Ar) (A : Option Addr) (L c k' : Nat), e = .returned (.slice A L c) ∧ SD s ∧ ArsO w' w.heap.size A L c s ∧ k' ≤ k + 100 ∧ Src w' g An nn cn bs k' ∧ w.grownBy w' (some g)
set_option maxHeartbeats 4000000 in
theorem l07DrawOk_any (g : Nat) (An : Option Addr) (nn cn : Nat) (bs : List Int) (k : Nat) (hk : k ≤ 1000000) (w : World) (h : Src w g An nn cn bs k) :
    Calls Try.prog 70 #[.pointer (some ⟨g, 0, none⟩)] w (DrawnS g An nn cn bs k w) := by
  have gl := h.lt
  have ba := bel_alloc w (.cells #[] 70)
  have V0 := Lib.hid (arsO_lit w)
  have S0 := Lib.hid (h.kept ba)
  have G0 := Lib.hid (show w.grownBy (w.alloc (.cells #[] 70)) (some g) from World.grownBy_alloc _ _ _)
  clear h ba
  go_enter Try.func70, Try.ntmps70
  go_wp2_with fail
  refine (pick_any 6 g An nn cn bs k _ S0.out (by omega) (by omega) (by omega)).mono ?_
  rintro e w1 ⟨r, k1, rfl, hr, k10, k11, hs1, hg1⟩
  obtain ⟨r0, r1⟩ := hr.lt (by omega)
  obtain ⟨r, rfl⟩ := Int.eq_ofNat_of_zero_le r0
  have V1 := Lib.hid (show ArsO w1 w.heap.size _ 0 0 [] from V0.out.kept hg1 (ne_lt' (fun x hx => (V0.out.block x hx).1) gl))
  have S1 := Lib.hid hs1
  have G1 := Lib.hid (grown_trans G0.out hg1)
  clear hr hs1 hg1 V0 S0 G0
  go_wp2_with fail
  refine (one_any 10 g An nn cn bs k1 _ S1.out (by omega) (by omega) (by omega)).mono ?_
  rintro e w2 ⟨q, k2, rfl, k20, k21, hs2, hg2⟩
  have V2 := Lib.hid (show ArsO w2 w.heap.size _ 0 0 [] from V1.out.kept hg2 (ne_lt' (fun x hx => (V1.out.block x hx).1) gl))
  have S2 := Lib.hid hs2
  have G2 := Lib.hid (grown_trans G1.out hg2)
  clear hs2 hg2 V1 S1 G1
  go_upto_if 10 with fail
  go_cut [5] from 8 (fun s wc => (∃ m : Nat, m ≤ 8 ∧ s = .int .i64 m) ∧ w2 = wc)
  case first =>
    cases q
    · go_wp2_with fail
      go_meet
      case rel => exact ⟨⟨r, by omega, rfl⟩, rfl⟩
    · go_wp2_with fail
      go_meet
      case rel => exact ⟨⟨8, by omega, rfl⟩, rfl⟩
  case rest =>
  obtain ⟨⟨m, m8, rfl⟩, rfl⟩ := hcut
  go_wp2_with fail
  go_loopw [3, 4, 5] (fun s3 s4 t wr => ∃ (j L id kk : Nat) (A : Option Addr) (c : Nat) (s : List Ar), s3 = .slice A L c ∧ s4 = .int .i64 id ∧ t = .int .i64 j ∧ j + L = m ∧ id ≤ 2 * L ∧ SOk s ∧ (∀ a ∈ s, a.id ≤ (id : Int)) ∧ ArsO wr w.heap.size A L c s ∧ kk ≤ k2 + 4 * L ∧ Src wr g An nn cn bs kk ∧ w.grownBy wr (some g)) (fun _ _ t _ => (intOf t).toNat)
  case atStart => exact ⟨m, 0, 0, k2, _, 0, [], rfl, rfl, rfl, by omega, by omega, SOk.nil, by simp, V2.out, by omega, S2.out, G2.out⟩
  case round =>
    obtain ⟨j, L, id, kk, A, c, s, rfl, rfl, rfl, hjl, hid, hs, hle, hV, hkk, hS, hG⟩ := hrel
    have HSO := Lib.hid hs
    have HLE := Lib.hid hle
    have HV := Lib.hid hV
    have HS := Lib.hid hS
    have HG := Lib.hid hG
    have HJ := Lib.hid hjl
    have L8 : L ≤ 8 := by omega
    have id16 : id ≤ 16 := by omega
    have sz := hG.size
    have kb : kk ≤ 2000000 := by omega
    clear hs hle hV hS hG V2 S2 G2 hjl
    by_cases hj : 0 < j
    · have d0 := decide_eq_true (show (0 : Int) < (j : Int) by omega)
      go_wp2_with fail
      refine (pick_any 2 g An nn cn bs kk _ HS.out (by omega) (by omega) (by omega)).mono ?_
      rintro e w3 ⟨x, k3, rfl, hx, k30, k31, hs3, hg3⟩
      obtain ⟨x0, x1⟩ := hx.lt (by omega)
      obtain ⟨x, rfl⟩ := Int.eq_ofNat_of_zero_le x0
      have sz3 := hg3.size
      have V3 := Lib.hid (show ArsO w3 w.heap.size A L c s from HV.out.kept hg3 (ne_lt' (fun x hx => (HV.out.block x hx).1) gl))
      have S3 := Lib.hid hs3
      have G3 := Lib.hid (grown_trans HG.out hg3)
      have ew1 : IntKind.i64.wrap (1 + (x : Int)) = 1 + (x : Int) := IntWalk.i64_in _ (by omega)
      have ew2 : IntKind.i64.wrap ((id : Int) + (1 + (x : Int))) = ((id + 1 + x : Nat) : Int) := by rw [IntWalk.i64_in _ (by omega)]; omega
      clear hx hs3 hg3 HV HS HG
      go_wp2_with fail
      refine (sentence_any g An nn cn bs k3 _ S3.out (by omega)).mono ?_
      rintro e w4 ⟨t, k4, rfl, ht, k40, k41, hs4, hg4⟩
      have sz4 := hg4.size
      have V4 := Lib.hid (show ArsO w4 w.heap.size A L c s from V3.out.kept hg4 (ne_lt' (fun x hx => (V3.out.block x hx).1) gl))
      have S4 := Lib.hid hs4
      have G4 := Lib.hid (grown_trans G3.out hg4)
      have HT := Lib.hid ht
      have hsz : w.heap.size ≤ w4.heap.size := by omega
      have ewj : IntKind.i64.wrap ((j : Int) - 1) = ((j - 1 : Nat) : Int) := by have := HJ.out; rw [IntWalk.i64_in _ (by omega)]; omega
      clear ht hs4 hg4 V3 S3 G3
      go_wp2_with (at_builtin; refine app_ar1 w4 rfl _ _ rfl w.heap.size A L c s rfl V4.out ⟨((id + 1 + x : Nat) : Int), t⟩ rfl (by omega) hsz ?_; intro A' c' w5 p1 p2)
      go_roundw
      case rel =>
        refine ⟨j - 1, L + 1, id + 1 + x, k4, A', c', _, rfl, rfl, rfl, by have := HJ.out; omega, by omega, HSO.out.snoc (fun a ha => by have := HLE.out a ha; omega) (by omega) HT.out, fun a ha => ?_, p1, by omega, S4.out.grown p2 (fun y hy => by have := (OwnR.block V4.out y hy).1; omega), only_new G4.out p2 (fun y hy => (OwnR.block V4.out y hy).1)⟩
        rcases List.mem_append.1 ha with ha | ha
        · have := HLE.out a ha; omega
        · rw [List.mem_singleton] at ha; subst ha; exact Int.le_refl _
      case measure => simp [intOf]; omega
    · obtain rfl : j = 0 := by omega
      have d0 : decide ((0 : Int) < ((0 : Nat) : Int)) = false := by decide
      obtain rfl : L = m := by have := HJ.out; omega
      have ID := Lib.hid (show ∀ a ∈ s, a.id ≤ 16 ∨ a.id = 99 from fun a ha => .inl (by have := HLE.out a ha; omega))
      have hl := HV.out.len
      by_cases hL : 0 < L
      · have d1 := decide_eq_true (show (0 : Int) < (L : Int) by omega)
        go_wp2_with fail
        refine (one_any 10 g An nn cn bs kk _ HS.out (by omega) (by omega) (by omega)).mono ?_
        rintro e w6 ⟨q, k6, rfl, k60, k61, hs6, hg6⟩
        have V6 := Lib.hid (show ArsO w6 w.heap.size A L c s from HV.out.kept hg6 (ne_lt' (fun x hx => (HV.out.block x hx).1) gl))
        have S6 := Lib.hid hs6
        have G6 := Lib.hid (grown_trans HG.out hg6)
        clear hs6 hg6 HV HS HG
        cases q
        · go_wp2_with fail
          go_ret
          exact ⟨s, A, L, c, k6, rfl, ⟨HSO.out, by omega, ID.out⟩, V6.out, by omega, S6.out, G6.out⟩
        · obtain ⟨ga, rfl, ga1, ga2⟩ := OwnR.form V6.out hL
          have hlt : L - 1 < s.length := by omega
          obtain ⟨x, hx⟩ : ∃ x, s[L - 1]? = some x := ⟨_, List.getElem?_eq_getElem hlt⟩
          have hxm : (s.map Ar.vals)[L - 1]? = some x.vals := by rw [List.getElem?_map, hx]; rfl
          obtain ⟨t1, t2⟩ := OwnR.put V6.out (i := 0) (.int .i64 99) hxm (by omega)
          have cx := OwnR.cell V6.out hxm (i := 0) (v := .int .i64 x.id) rfl
          rw [Nat.add_zero] at cx t1 t2
          have fx := OwnR.free V6.out ((L - 1) * 2)
          have hxt := HSO.out.txt x (List.mem_of_getElem? hx)
          have R7 := Lib.hid (show ArsO (w6.setCell ⟨ga, (L - 1) * 2, none⟩ (.int .i64 99)) w.heap.size (some ⟨ga, 0, none⟩) L c (s.take (L - 1) ++ [⟨99, x.text⟩]) from by
            unfold ArsO
            have e1 : s.take (L - 1) ++ [⟨99, x.text⟩] = s.set (L - 1) ⟨99, x.text⟩ := by
              rw [List.set_eq_take_append_cons_drop, if_pos hlt, List.drop_of_length_le (by omega)]
            rw [e1, List.map_set]
            exact t1)
          have SX := Lib.hid (show SD (s.take (L - 1) ++ [⟨99, x.text⟩]) from by
            refine ⟨SOk.snoc ⟨HSO.out.srt.sublist (List.take_sublist _ _), fun a ha => HSO.out.txt a (List.mem_of_mem_take ha), fun a ha => HSO.out.rng a (List.mem_of_mem_take ha)⟩ (fun a ha => by have := HLE.out a (List.mem_of_mem_take ha); omega) (by omega) hxt, by simp; omega, fun a ha => ?_⟩
            rcases List.mem_append.1 ha with ha | ha
            · exact ID.out a (List.mem_of_mem_take ha)
            · rw [List.mem_singleton] at ha; subst ha; exact .inr rfl)
          have S7 := Lib.hid (S6.out.grown t2 (fun y hy => by injection hy with hy; omega))
          have G7 := Lib.hid (only_new G6.out t2 (fun y hy => by injection hy with hy; omega))
          have ew : IntKind.i64.wrap ((L : Int) - 1) = ((L - 1 : Nat) : Int) := by rw [IntWalk.i64_in _ (by omega)]; omega
          have l0 : (0 : Int) ≤ ((L - 1 : Nat) : Int) := by omega
          have l1 : ((L - 1 : Nat) : Int) < (L : Int) := by omega
          clear hx hxm t1 t2 hxt
          go_wp2_with fail
          go_ret
          exact ⟨_, _, L, c, k6, rfl, SX.out, R7.out, by omega, S7.out, G7.out⟩
      · obtain rfl : L = 0 := by omega
        go_wp2_with fail
        go_ret
        exact ⟨s, A, 0, c, kk, rfl, ⟨HSO.out, by omega, ID.out⟩, HV.out, by omega, HS.out, HG.out⟩
end Go.Proofs.Ytcoladhppbknnaa
