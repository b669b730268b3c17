/- Drawn patches; the reference's steps on statutes. -/
import Derived.Test.YtcoladhppbknnaaStD
namespace Go.Proofs.Ytcoladhppbknnaa
set_option linter.unusedVariables false
set_option linter.unusedSimpArgs false
set_option maxRecDepth 100000
open Go.RowKit Go.Deep
def stpV (id : Int) (old new : ByteArray) : Ed := if old = new then dEd else stp id old new
set_option maxHeartbeats 1000000 in
theorem l07Step_ok (id : Int) (old new : ByteArray) (w : World) :
    Calls Try.prog 108 #[.int .i64 id, .string old, .string new] w fun e w' => e = .returned (.agg #[.int .i64 (stpV id old new).kind, .int .i64 (stpV id old new).id, .string (stpV id old new).old, .string (stpV id old new).new]) ∧ Below w.heap.size w w' := by
  have z := fun (v : World) => bel_alloc v (.cells #[.int .i64 0, .int .i64 0, .string ⟨#[]⟩, .string ⟨#[]⟩] 74)
  have b1 := bel_alloc w (.cells #[.int .i64 0, .int .i64 0, .string ⟨#[]⟩, .string ⟨#[]⟩] 74)
  have b2 := bel_alloc (w.alloc (.cells #[.int .i64 0, .int .i64 0, .string ⟨#[]⟩, .string ⟨#[]⟩] 74)) (.cells #[.int .i64 0, .int .i64 id, .string old, .string new] 74)
  have bb := bel_trans b1 b2
  have C1 := (Cs.new w [.int .i64 0, .int .i64 0, .string ⟨#[]⟩, .string ⟨#[]⟩] 74).below b2
  have C2 := Cs.new (w.alloc (.cells #[.int .i64 0, .int .i64 0, .string ⟨#[]⟩, .string ⟨#[]⟩] 74)) [.int .i64 0, .int .i64 id, .string old, .string new] 74
  have sz : (w.alloc (.cells #[.int .i64 0, .int .i64 0, .string ⟨#[]⟩, .string ⟨#[]⟩] 74)).heap.size = w.heap.size + 1 := by simp
  rw [sz] at C2
  unfold stpV
  by_cases h : old = new
  · subst h
    rw [if_pos rfl]
    have f0 := C1.free 0 rfl
    have f1 := C1.free 1 rfl
    have f2 := C1.free 2 rfl
    have f3 := C1.free 3 rfl
    have x0 := C1.cell 0 rfl
    have x1 := C1.cell 1 rfl
    have x2 := C1.cell 2 rfl
    have x3 := C1.cell 3 rfl
    have BB := Lib.hid bb
    have CC := Lib.hid C1
    clear C1 C2 b1 b2 bb z sz
    go_enter Try.func108, Try.ntmps108
    go_wp2_with fail
    exact bodyPost_ret (v := .agg #[.int .i64 0, .int .i64 0, .string ⟨#[]⟩, .string ⟨#[]⟩]) (by simp [results, Try.results108, go_sem, x0, x1, x2, x3]) rfl ⟨rfl, BB.out⟩
  · rw [if_neg h]
    have e1 : (old.toList == new.toList) = false := by rw [beq_eq_false_iff_ne]; exact fun hh => h (bytes_ext.1 hh)
    unfold stp
    have BB := Lib.hid bb
    have D1 := Lib.hid C1
    have D2 := Lib.hid C2
    have f0 := C1.free 0 rfl
    have f1 := C1.free 1 rfl
    have f2 := C1.free 2 rfl
    have f3 := C1.free 3 rfl
    have x0 := C1.cell 0 rfl
    have x1 := C1.cell 1 rfl
    have x2 := C1.cell 2 rfl
    have x3 := C1.cell 3 rfl
    have g0 := C2.free 0 rfl
    have y0 := C2.cell 0 rfl
    have y1 := C2.cell 1 rfl
    have y2 := C2.cell 2 rfl
    have y3 := C2.cell 3 rfl
    clear h C1 C2 b1 b2 bb z sz
    by_cases h1 : old = ByteArray.empty
    · rw [if_pos h1]
      subst h1
      have e4 : new.toList.isEmpty = false := by
        rw [Bool.eq_false_iff]
        intro hh
        rw [bytes_mt.1 hh] at e1
        simp at e1
      go_enter Try.func108, Try.ntmps108
      go_wp2_with fail
      have B9 := Lib.hid (bel_trans (bel_alloc w (.cells #[.int .i64 1, .int .i64 id, .string ByteArray.empty, .string new] 74)) (bel_alloc (w.alloc (.cells #[.int .i64 1, .int .i64 id, .string ByteArray.empty, .string new] 74)) (.cells #[.int .i64 1, .int .i64 id, .string ByteArray.empty, .string new] 74)))
      have C9 := Lib.hid ((Cs.new w [.int .i64 1, .int .i64 id, .string ByteArray.empty, .string new] 74).below (bel_alloc (w.alloc (.cells #[.int .i64 1, .int .i64 id, .string ByteArray.empty, .string new] 74)) (.cells #[.int .i64 1, .int .i64 id, .string ByteArray.empty, .string new] 74)))
      have r0 := C9.out.cell 0 rfl
      have r1 := C9.out.cell 1 rfl
      have r2 := C9.out.cell 2 rfl
      have r3 := C9.out.cell 3 rfl
      clear f0 f1 f2 f3 x0 x1 x2 x3 g0 y0 y1 y2 y3
      exact bodyPost_ret (v := .agg #[.int .i64 1, .int .i64 id, .string ByteArray.empty, .string new]) (by simp [results, Try.results108, go_sem, r0, r1, r2, r3]) rfl ⟨rfl, B9.out⟩
    · rw [if_neg h1]
      have e2 : old.toList.isEmpty = false := by rw [Bool.eq_false_iff]; exact fun hh => h1 (bytes_mt.1 hh)
      clear h1
      by_cases h2 : new = ByteArray.empty
      · rw [if_pos h2]
        subst h2
        go_enter Try.func108, Try.ntmps108
        go_wp2_with fail
        have B9 := Lib.hid (bel_trans (bel_alloc w (.cells #[.int .i64 2, .int .i64 id, .string old, .string ByteArray.empty] 74)) (bel_alloc (w.alloc (.cells #[.int .i64 2, .int .i64 id, .string old, .string ByteArray.empty] 74)) (.cells #[.int .i64 2, .int .i64 id, .string old, .string ByteArray.empty] 74)))
        have C9 := Lib.hid ((Cs.new w [.int .i64 2, .int .i64 id, .string old, .string ByteArray.empty] 74).below (bel_alloc (w.alloc (.cells #[.int .i64 2, .int .i64 id, .string old, .string ByteArray.empty] 74)) (.cells #[.int .i64 2, .int .i64 id, .string old, .string ByteArray.empty] 74)))
        have r0 := C9.out.cell 0 rfl
        have r1 := C9.out.cell 1 rfl
        have r2 := C9.out.cell 2 rfl
        have r3 := C9.out.cell 3 rfl
        clear f0 f1 f2 f3 x0 x1 x2 x3 g0 y0 y1 y2 y3
        exact bodyPost_ret (v := .agg #[.int .i64 2, .int .i64 id, .string old, .string ByteArray.empty]) (by simp [results, Try.results108, go_sem, r0, r1, r2, r3]) rfl ⟨rfl, B9.out⟩
      · rw [if_neg h2]
        have e4 : new.toList.isEmpty = false := by rw [Bool.eq_false_iff]; exact fun hh => h2 (bytes_mt.1 hh)
        clear h2
        go_enter Try.func108, Try.ntmps108
        go_wp2_with fail
        have B9 := Lib.hid (bel_trans (bel_alloc w (.cells #[.int .i64 3, .int .i64 id, .string old, .string new] 74)) (bel_alloc (w.alloc (.cells #[.int .i64 3, .int .i64 id, .string old, .string new] 74)) (.cells #[.int .i64 3, .int .i64 id, .string old, .string new] 74)))
        have C9 := Lib.hid ((Cs.new w [.int .i64 3, .int .i64 id, .string old, .string new] 74).below (bel_alloc (w.alloc (.cells #[.int .i64 3, .int .i64 id, .string old, .string new] 74)) (.cells #[.int .i64 3, .int .i64 id, .string old, .string new] 74)))
        have r0 := C9.out.cell 0 rfl
        have r1 := C9.out.cell 1 rfl
        have r2 := C9.out.cell 2 rfl
        have r3 := C9.out.cell 3 rfl
        clear f0 f1 f2 f3 x0 x1 x2 x3 g0 y0 y1 y2 y3
        exact bodyPost_ret (v := .agg #[.int .i64 3, .int .i64 id, .string old, .string new]) (by simp [results, Try.results108, go_sem, r0, r1, r2, r3]) rfl ⟨rfl, B9.out⟩
theorem l07Step_same (id : Int) (old new : ByteArray) (h : old = new) (w : World) :
    Calls Try.prog 108 #[.int .i64 id, .string old, .string new] w fun e w' => e = .returned (.agg #[.int .i64 0, .int .i64 0, .string ByteArray.empty, .string ByteArray.empty]) ∧ Below w.heap.size w w' := by
  have := l07Step_ok id old new w
  rw [show stpV id old new = dEd from if_pos h] at this
  exact this
theorem l07Step_diff (id : Int) (old new : ByteArray) (h : old ≠ new) (w : World) :
    Calls Try.prog 108 #[.int .i64 id, .string old, .string new] w fun e w' => e = .returned (.agg #[.int .i64 (stp id old new).kind, .int .i64 (stp id old new).id, .string (stp id old new).old, .string (stp id old new).new]) ∧ Below w.heap.size w w' := by
  have := l07Step_ok id old new w
  rw [show stpV id old new = stp id old new from if_neg h] at this
  exact this
def edoD (p : List Ed) (id : Int) : Ed := (edo p id).getD dEd
set_option maxHeartbeats 1000000 in
theorem l07EditOf_ok (A : Option Addr) (n c : Nat) (rs : List Ed) (id : Int) (w : World) (h : Eds w A n c rs) :
    Calls Try.prog 80 #[.slice A n c, .int .i64 id] w fun e w' => e = .returned (.agg #[.int .i64 (edoD rs id).kind, .int .i64 (edoD rs id).id, .string (edoD rs id).old, .string (edoD rs id).new]) ∧ Below w.heap.size w w' := by
  have hm := h.short
  obtain rfl : rs.length = n := h.len
  have b1 := bel_alloc w (.cells #[.int .i64 0, .int .i64 0, .string ⟨#[]⟩, .string ⟨#[]⟩] 74)
  have C1 := Cs.new w [.int .i64 0, .int .i64 0, .string ⟨#[]⟩, .string ⟨#[]⟩] 74
  have HA := Lib.hid (h.below b1)
  have B1 := Lib.hid b1
  have f0 := C1.free 0 rfl
  have f1 := C1.free 1 rfl
  have f2 := C1.free 2 rfl
  have f3 := C1.free 3 rfl
  have x0 := C1.cell 0 rfl
  have x1 := C1.cell 1 rfl
  have x2 := C1.cell 2 rfl
  have x3 := C1.cell 3 rfl
  clear h b1 C1
  go_enter Try.func80, Try.ntmps80
  go_wp2_with fail
  go_loop [5] (fun i => ∃ k : Nat, k ≤ rs.length ∧ i = .int .i64 k ∧ (rs.take k).any (fun a => a.id == id) = false) (fun i => rs.length - (intOf i).toNat)
  case atStart => exact ⟨0, Nat.zero_le _, rfl, rfl⟩
  case round =>
    obtain ⟨k, hk, rfl, hany⟩ := hrel
    have HY := Lib.hid hany
    clear hany
    by_cases hlt : k < rs.length
    · have d0 := decide_eq_true (show (k : Int) < (rs.length : Int) by omega)
      obtain ⟨b, off, a, rfl, hbw, ha, hok, c0, c1, c2, c3⟩ := HA.out.at hlt
      have k0 : (0 : Int) ≤ (k : Int) := by omega
      have k1 : (k : Int) < (rs.length : Int) := by omega
      cases hp : (a.id == id)
      · have NX := Lib.hid (any_nextG (p := fun a => a.id == id) ha.out HY.out hp)
        have e1 : decide (a.id = id) = false := decide_eq_false (by simpa using hp)
        go_wp2_with fail
        go_round
        case rel => exact ⟨k + 1, by omega, by go_num, NX.out⟩
        case measure => simp [intOf]; omega
      · have EQ := Lib.hid (show edoD rs id = a by unfold edoD; rw [edo_at ha.out hp HY.out]; rfl)
        have e1 : decide (a.id = id) = true := decide_eq_true (by simpa using hp)
        have B9 := Lib.hid (bel_alloc w (.cells #[.int .i64 a.kind, .int .i64 a.id, .string a.old, .string a.new] 74))
        have C9 := Lib.hid (Cs.new w [.int .i64 a.kind, .int .i64 a.id, .string a.old, .string a.new] 74)
        go_wp2_with fail
        have r0 := C9.out.cell 0 rfl
        have r1 := C9.out.cell 1 rfl
        have r2 := C9.out.cell 2 rfl
        have r3 := C9.out.cell 3 rfl
        clear f0 f1 f2 f3 x0 x1 x2 x3
        exact bodyPost_ret (v := .agg #[.int .i64 a.kind, .int .i64 a.id, .string a.old, .string a.new]) (by simp [results, Try.results80, go_sem, r0, r1, r2, r3]) rfl ⟨by rw [EQ.out], B9.out⟩
    · obtain rfl : rs.length = k := by omega
      have d0 := decide_eq_false (show ¬ (rs.length : Int) < (rs.length : Int) by omega)
      have EQ := Lib.hid (show edoD rs id = dEd by unfold edoD; rw [edo_any (rs := rs) (id := id) (by rw [← HY.out, List.take_of_length_le (Nat.le_refl _)])]; rfl)
      go_wp2_with fail
      exact bodyPost_ret (v := .agg #[.int .i64 0, .int .i64 0, .string ⟨#[]⟩, .string ⟨#[]⟩]) (by simp [results, Try.results80, go_sem, x0, x1, x2, x3]) rfl ⟨by rw [EQ.out]; rfl, B1.out⟩
theorem EdsO.snoc1 {w : World} {base n c : Nat} {A : Option Addr} {es : List Ed} {a : Ed} (h : OwnR 74 4 w base A (n + 1) c (es.map Ed.vals ++ [a.vals])) : EdsO w base A (n + 1) c (es ++ [a]) := by
  unfold EdsO
  rw [List.map_append]
  exact h
/-- append of one edit. -/
theorem app_ed1 {ops : Array Oper} {rest : List Oper} {o : Oper} {a : Act} {Q : Exit → Act → World → Prop} (w : World) (hgd : o.guard = none) (s x : Operand)
    (ho : o.op = .call { callee := .builtin .append, args := #[s, x], argTypes := #[28, 28] }) (base : Nat)
    (A : Option Addr) (n c : Nat) (es : List Ed) (hs : a.eval s = .slice A n c) (hown : EdsO w base A n c es) (e : Ed)
    (hx : a.eval x = .slice (some ⟨w.heap.size, 0, none⟩) 1 1) (hn : n ≤ 1048576) (hbase : base ≤ w.heap.size)
    (h : ∀ A' c' w1, EdsO w1 base A' (n + 1) c' (es ++ [e]) → w.grownBy w1 (Value.slice A n c).ownBlock → wpList Try.prog ops Q rest (a.put o.dst (.slice A' (n + 1) c')) w1) :
    wpList Try.prog ops Q (o :: rest) a (w.alloc (.cells #[.int .i64 e.kind, .int .i64 e.id, .string e.old, .string e.new] 74)) := by
  obtain ⟨i0, hi, hz0, hz1, hz2⟩ := info_parts info_ed
  refine app_rec w hgd s x _ _ ho base i0 _ 4 48 Try.underlying28 hi hz0 hz1 hz2 rfl (by omega) A n c _ hs hown e.vals rfl (by intro u hu; simp [Ed.vals] at hu; rcases hu with rfl | rfl | rfl | rfl <;> rfl) hx (by unfold maxLen; omega) (by omega) hbase ?_
  intro A' c' w1 p1 p2 _
  exact h A' c' w1 (EdsO.snoc1 p1) p2
/-- Patches as they are drawn. -/
structure PD (p : List Ed) : Prop where
  ok : POk p
  ids : ∀ e ∈ p, e.id ≤ 16
theorem PD.len {p : List Ed} (h : PD p) : p.length ≤ 16 := by
  have key : ∀ {p : List Ed} (lo : Nat), p.Pairwise (fun a b => a.id < b.id) → (∀ e ∈ p, (lo : Int) < e.id ∧ e.id ≤ 16) → p.length + lo ≤ 16 ∨ p = [] := by
    intro p
    induction p with
    | nil => intro lo _ _; exact .inr rfl
    | cons e p ih =>
      intro lo hs hr
      rw [List.pairwise_cons] at hs
      have he := hr e (List.mem_cons_self ..)
      rcases ih e.id.toNat hs.2 (fun x hx => by have := hs.1 x hx; have := (hr x (List.mem_cons_of_mem _ hx)).2; omega) with h1 | h1
      · left; simp; omega
      · left; subst h1; simp; omega
  rcases key 0 h.ok.srt (fun e he => ⟨by have := (h.ok.rng e he).1; omega, h.ids e he⟩) with h1 | h1
  · omega
  · rw [h1]; simp
structure DS (w0 : World) (g : Nat) (An : Option Addr) (nn cn : Nat) (bs : List Int) (tb : Nat) (A : Option Addr) (n c : Nat) (t : List Ar) (O : Option Addr) (L oc : Nat) (p : List Ed) (w : World) (k : Nat) : Prop where
  src : Src w g An nn cn bs k
  gr : w0.grownBy w (some g)
  t : ArsO w tb A n c t
  p : EdsO w w0.heap.size O L oc p
theorem DS.next {w0 : World} {g : Nat} {An : Option Addr} {nn cn : Nat} {bs : List Int} {tb : Nat} {A : Option Addr} {n c : Nat} {t : List Ar} {O : Option Addr} {L oc : Nat} {p : List Ed} {w w' : World} {k k' : Nat}
    (h : DS w0 g An nn cn bs tb A n c t O L oc p w k) (hs : Src w' g An nn cn bs k') (hg : w.grownBy w' (some g)) (h1 : g < tb) (h2 : g < w0.heap.size) : DS w0 g An nn cn bs tb A n c t O L oc p w' k' :=
  ⟨hs, grown_trans h.gr hg, h.t.kept hg (ne_lt' (fun x hx => (h.t.block x hx).1) h1), h.p.kept hg (ne_lt' (fun x hx => (h.p.block x hx).1) h2)⟩
theorem DS.below {w0 : World} {g : Nat} {An : Option Addr} {nn cn : Nat} {bs : List Int} {tb : Nat} {A : Option Addr} {n c : Nat} {t : List Ar} {O : Option Addr} {L oc : Nat} {p : List Ed} {w w' : World} {k : Nat}
    (h : DS w0 g An nn cn bs tb A n c t O L oc p w k) (hb : Below w.heap.size w w') : DS w0 g An nn cn bs tb A n c t O L oc p w' k :=
  ⟨h.src.kept hb, only_new h.gr (show w.grownBy w' none from ⟨hb.os, hb.tape, hb.output, hb.size, fun k hk _ => hb.block k hk⟩) (fun r hr => by cases hr), OwnR.below h.t hb, OwnR.below h.p hb⟩
theorem DS.size {w0 : World} {g : Nat} {An : Option Addr} {nn cn : Nat} {bs : List Int} {tb : Nat} {A : Option Addr} {n c : Nat} {t : List Ar} {O : Option Addr} {L oc : Nat} {p : List Ed} {w : World} {k : Nat}
    (h : DS w0 g An nn cn bs tb A n c t O L oc p w k) : w0.heap.size ≤ w.heap.size := h.gr.size
def DrawnF (g : Nat) (An : Option Addr) (nn cn : Nat) (bs : List Int) (k tb : Nat) (A : Option Addr) (n c : Nat) (t : List Ar) (w : World) (e : Ending) (w' : World) : Prop :=
  ∃ (p : List Ed) (O : Option Addr) (L oc k' : Nat), e = .returned (.slice O L oc) ∧ PD p ∧ EdsO w' w.heap.size O L oc p ∧ ArsO w' tb A n c t ∧ k' ≤ k + 400 ∧ Src w' g An nn cn bs k' ∧ w.grownBy w' (some g)
theorem PD.snoc {p : List Ed} {j : Nat} (h : POk p) (hi : ∀ e ∈ p, e.id ≤ (j : Int)) (hj : j < 16) {old new : ByteArray} (h1 : Txt old) (h2 : Txt new) (h3 : old ≠ new) : POk (p ++ [stp ((j : Int) + 1) old new]) ∧ ∀ e ∈ p ++ [stp ((j : Int) + 1) old new], e.id ≤ ((j + 1 : Nat) : Int) := by
  refine ⟨⟨?_, fun e he => ?_, fun e he => ?_⟩, fun e he => ?_⟩
  · rw [List.pairwise_append]
    exact ⟨h.srt, List.pairwise_singleton _ _, fun a ha b hb => by rw [List.mem_singleton] at hb; subst hb; rw [stp_id]; have := hi a ha; omega⟩
  · rcases List.mem_append.1 he with he | he
    · exact h.ed e he
    · rw [List.mem_singleton] at he; subst he; exact stp_ok h1 h2 h3
  · rcases List.mem_append.1 he with he | he
    · exact h.rng e he
    · rw [List.mem_singleton] at he; subst he; rw [stp_id]; omega
  · rcases List.mem_append.1 he with he | he
    · have := hi e he; omega
    · rw [List.mem_singleton] at he; subst he; rw [stp_id]; omega
theorem stp_kind (id : Int) (old new : ByteArray) : (stp id old new).kind ≠ 0 := by unfold stp; split <;> (try split) <;> simp
set_option maxHeartbeats 8000000 in
theorem l07DrawFor_any (g : Nat) (An : Option Addr) (nn cn : Nat) (bs : List Int) (k : Nat) (hk : k ≤ 1000000) (tb : Nat) (A : Option Addr) (n c : Nat) (t : List Ar) (w : World) (h : Src w g An nn cn bs k) (ht : ArsO w tb A n c t) (hts : SOk t) (htb : g < tb) :
    Calls Try.prog 72 #[.pointer (some ⟨g, 0, none⟩), .slice A n c] w (DrawnF g An nn cn bs k tb A n c t w) := by
  have gl := h.lt
  have ba := bel_alloc w (.cells #[] 74)
  have D0 := Lib.hid (show DS w g An nn cn bs tb A n c t _ 0 0 [] _ k from ⟨h.kept ba, World.grownBy_alloc _ _ _, OwnR.below ht ba, edsO_lit w⟩)
  have TS := Lib.hid hts
  clear h ba ht hts
  go_enter Try.func72, Try.ntmps72
  go_wp2_with fail
  refine (pick_any 3 g An nn cn bs k _ D0.out.src (by omega) (by omega) (by omega)).mono ?_
  rintro e w1 ⟨r, k1, rfl, hr, k10, k11, hs1, hg1⟩
  obtain ⟨r0, r1⟩ := hr.lt (by omega)
  obtain ⟨r, rfl⟩ := Int.eq_ofNat_of_zero_le r0
  have D1 := Lib.hid (D0.out.next hs1 hg1 htb gl)
  have ewr : IntKind.i64.wrap (2 + (r : Int)) = 2 + (r : Int) := IntWalk.i64_in _ (by omega)
  obtain ⟨so, hso⟩ : ∃ x : Int, 2 + (r : Int) = x := ⟨_, rfl⟩
  rw [hso] at ewr
  have so0 : 2 ≤ so := by omega
  have so1 : so ≤ 10 := by omega
  clear hr hs1 hg1 D0
  go_wp2_with fail
  clear hso
  go_loopw [5, 7] (fun s5 t7 wr => ∃ (j L kk : Nat) (O : Option Addr) (oc : Nat) (p : List Ed), j ≤ 16 ∧ s5 = .slice O L oc ∧ t7 = .int .i64 ((j : Int) + 1) ∧ POk p ∧ (∀ e ∈ p, e.id ≤ (j : Int)) ∧ DS w g An nn cn bs tb A n c t O L oc p wr kk ∧ kk ≤ k1 + 20 * j) (fun _ t _ => 17 - (intOf t).toNat)
  case atStart => exact ⟨0, 0, k1, _, 0, [], Nat.zero_le _, rfl, rfl, ⟨List.Pairwise.nil, by simp, by simp⟩, by simp, D1.out, by omega⟩
  case round =>
    obtain ⟨j, L, kk, O, oc, p, hj16, rfl, rfl, hp, hpi, hd, hkk⟩ := hrel
    have HP := Lib.hid hp
    have HI := Lib.hid hpi
    have HD := Lib.hid hd
    have HL := Lib.hid (show p.length ≤ 16 from PD.len ⟨hp, fun e he => by have := hpi e he; omega⟩)
    have hL := hd.p.len
    have kb : kk ≤ 1000400 := by omega
    have lb : L ≤ 16 := by have := HL.out; omega
    clear hp hpi hd D1 hL
    by_cases hj : j < 16
    · have d0 := decide_eq_true (show (j : Int) + 1 ≤ 16 by omega)
      have ew : IntKind.i64.wrap ((j : Int) + 1 + 1) = (j : Int) + 1 + 1 := IntWalk.i64_in _ (by omega)
      go_wp2_with fail
      refine (one_any so g An nn cn bs kk _ HD.out.src (by omega) (by omega) (by omega)).mono ?_
      rintro e w2 ⟨q, k2, rfl, k20, k21, hs2, hg2⟩
      have D2 := Lib.hid (HD.out.next hs2 hg2 htb gl)
      clear hs2 hg2 HD
      cases q
      · go_wp2_with fail
        go_roundw
        case rel => exact ⟨j + 1, L, k2, O, oc, p, by omega, rfl, by push_cast; rfl, HP.out, fun e he => by have := HI.out e he; omega, D2.out, by omega⟩
        case measure => simp [intOf]; omega
      · go_wp2_with fail
        refine (l07Find_ok A n c t ((j : Int) + 1) w2 (D2.out.t.ars' TS.out)).mono ?_
        rintro e w3 ⟨rfl, rfl⟩
        have OT := Lib.hid (show Txt (fnd t ((j : Int) + 1)) from by
          by_cases hh : fnd t ((j : Int) + 1) = ByteArray.empty
          · exact .inl hh
          · obtain ⟨a, ha, _, e2⟩ := fnd_some hh
            exact .inr (e2 ▸ TS.out.txt a ha))
        obtain ⟨old, hold⟩ : ∃ x, fnd t ((j : Int) + 1) = x := ⟨_, rfl⟩
        rw [hold] at OT ⊢
        clear hold
        go_wp2_with fail
        refine (sentence_any g An nn cn bs k2 _ D2.out.src (by omega)).mono ?_
        rintro e w4 ⟨nw, k4, rfl, hnw, k40, k41, hs4, hg4⟩
        have D4 := Lib.hid (D2.out.next hs4 hg4 htb gl)
        have NW := Lib.hid hnw
        clear hs4 hg4 D2 hnw
        by_cases hold : old = ByteArray.empty
        · subst hold
          go_wp2_with fail
          refine (one_any 3 g An nn cn bs k4 _ D4.out.src (by omega) (by omega) (by omega)).mono ?_
          rintro e w5 ⟨q3, k5, rfl, k50, k51, hs5, hg5⟩
          have D5 := Lib.hid (D4.out.next hs5 hg5 htb gl)
          clear hs5 hg5 D4
          cases q3
          · go_wp2_with fail
            go_roundw
            case rel => exact ⟨j + 1, L, k5, O, oc, p, by omega, rfl, by push_cast; rfl, HP.out, fun e he => by have := HI.out e he; omega, D5.out, by omega⟩
            case measure => simp [intOf]; omega
          · go_wp2_with fail
            refine (one_any 20 g An nn cn bs k5 _ D5.out.src (by omega) (by omega) (by omega)).mono ?_
            rintro e w6 ⟨q20, k6, rfl, k60, k61, hs6, hg6⟩
            have D6 := Lib.hid (D5.out.next hs6 hg6 htb gl)
            clear hs6 hg6 D5
            cases q20
            · go_upto_region 14 with fail
              have d1 : True := trivial
              by_cases hon : ByteArray.empty = nw
              · have ST := Lib.hid (fun W => l07Step_same ((j : Int) + 1) ByteArray.empty nw hon W)
                clear hon
                go_wp2_with fail
                refine (ST.out _).mono ?_
                rintro e w8 ⟨rfl, b8⟩
                have D8 := Lib.hid (D6.out.below b8)
                have b9 := bel_alloc w8 (.cells #[.int .i64 0, .int .i64 0, .string ByteArray.empty, .string ByteArray.empty] 74)
                have D9 := Lib.hid (D8.out.below b9)
                have y0 := (Cs.new w8 [.int .i64 0, .int .i64 0, .string ByteArray.empty, .string ByteArray.empty] 74).cell 0 rfl
                clear b8 b9 ST D8
                go_wp2_with fail
                go_roundw
                case rel => exact ⟨j + 1, L, k6, O, oc, p, by omega, rfl, by push_cast; rfl, HP.out, fun e he => by have := HI.out e he; omega, D9.out, by omega⟩
                case measure => simp [intOf]; omega
              · have ST := Lib.hid (fun W => l07Step_diff ((j : Int) + 1) ByteArray.empty nw hon W)
                have SN := Lib.hid (PD.snoc HP.out HI.out hj (.inl rfl) (.inr NW.out) hon)
                have kn := stp_kind ((j : Int) + 1) ByteArray.empty nw
                obtain ⟨ev, hev⟩ : ∃ x, stp ((j : Int) + 1) ByteArray.empty nw = x := ⟨_, rfl⟩
                rw [hev] at ST SN kn
                clear hon hev
                go_wp2_with fail
                refine (ST.out _).mono ?_
                rintro e w8 ⟨rfl, b8⟩
                have D8 := Lib.hid (D6.out.below b8)
                have b9 := bel_alloc w8 (.cells #[.int .i64 ev.kind, .int .i64 ev.id, .string ev.old, .string ev.new] 74)
                have D9 := Lib.hid (D8.out.below b9)
                have CC := Cs.new w8 [.int .i64 ev.kind, .int .i64 ev.id, .string ev.old, .string ev.new] 74
                have y0 := CC.cell 0 rfl
                have y1 := CC.cell 1 rfl
                have y2 := CC.cell 2 rfl
                have y3 := CC.cell 3 rfl
                have dk : decide (ev.kind = 0) = false := decide_eq_false kn
                have dk2 : (ev.kind != 0) = true := by simpa using kn
                have dsz := D9.out.size
                clear b8 b9 ST D8 CC kn
                go_upto_region 15 with fail
                obtain ⟨w9, hw9⟩ : ∃ x, w8.alloc (.cells #[.int .i64 ev.kind, .int .i64 ev.id, .string ev.old, .string ev.new] 74) = x := ⟨_, rfl⟩
                rw [show [Value.int .i64 ev.kind, .int .i64 ev.id, .string ev.old, .string ev.new].toArray = #[.int .i64 ev.kind, .int .i64 ev.id, .string ev.old, .string ev.new] from rfl] at y0 y1 y2 y3
                rw [hw9] at D9 y0 y1 y2 y3 dsz
                rw [hw9]
                clear hw9
                go_wp2_with (at_builtin; refine app_ed1 w9 rfl _ _ rfl w.heap.size O L oc p rfl D9.out.p ev rfl (by omega) dsz ?_; intro A' c' w10 p1 p2)
                go_roundw
                case rel =>
                  have nb := fun x hx => (OwnR.block D9.out.p x hx).1
                  exact ⟨j + 1, L + 1, k6, A', c', p ++ [ev], by omega, rfl, by push_cast; rfl, SN.out.1, SN.out.2, ⟨D9.out.src.grown p2 (fun x hx => by have := nb x hx; omega), only_new D9.out.gr p2 nb, D9.out.t.kept p2 (own_ne D9.out.t.1 D9.out.p.1 (by decide)), p1⟩, by omega⟩
                case measure => simp [intOf]; omega
            · go_wp2_with fail
              refine (sentence_any g An nn cn bs k6 _ D6.out.src (by omega)).mono ?_
              rintro e w7 ⟨sn, k7, rfl, hsn, k70, k71, hs7, hg7⟩
              have D7 := Lib.hid (D6.out.next hs7 hg7 htb gl)
              have SNT := Lib.hid hsn
              clear hs7 hg7 D6 hsn
              go_upto_region 14 with fail
              have d1 : True := trivial
              by_cases hon : sn = nw
              · have ST := Lib.hid (fun W => l07Step_same ((j : Int) + 1) sn nw hon W)
                clear hon
                go_wp2_with fail
                refine (ST.out _).mono ?_
                rintro e w8 ⟨rfl, b8⟩
                have D8 := Lib.hid (D7.out.below b8)
                have b9 := bel_alloc w8 (.cells #[.int .i64 0, .int .i64 0, .string ByteArray.empty, .string ByteArray.empty] 74)
                have D9 := Lib.hid (D8.out.below b9)
                have y0 := (Cs.new w8 [.int .i64 0, .int .i64 0, .string ByteArray.empty, .string ByteArray.empty] 74).cell 0 rfl
                clear b8 b9 ST D8
                go_wp2_with fail
                go_roundw
                case rel => exact ⟨j + 1, L, k7, O, oc, p, by omega, rfl, by push_cast; rfl, HP.out, fun e he => by have := HI.out e he; omega, D9.out, by omega⟩
                case measure => simp [intOf]; omega
              · have ST := Lib.hid (fun W => l07Step_diff ((j : Int) + 1) sn nw hon W)
                have SN := Lib.hid (PD.snoc HP.out HI.out hj (.inr SNT.out) (.inr NW.out) hon)
                have kn := stp_kind ((j : Int) + 1) sn nw
                obtain ⟨ev, hev⟩ : ∃ x, stp ((j : Int) + 1) sn nw = x := ⟨_, rfl⟩
                rw [hev] at ST SN kn
                clear hon hev
                go_wp2_with fail
                refine (ST.out _).mono ?_
                rintro e w8 ⟨rfl, b8⟩
                have D8 := Lib.hid (D7.out.below b8)
                have b9 := bel_alloc w8 (.cells #[.int .i64 ev.kind, .int .i64 ev.id, .string ev.old, .string ev.new] 74)
                have D9 := Lib.hid (D8.out.below b9)
                have CC := Cs.new w8 [.int .i64 ev.kind, .int .i64 ev.id, .string ev.old, .string ev.new] 74
                have y0 := CC.cell 0 rfl
                have y1 := CC.cell 1 rfl
                have y2 := CC.cell 2 rfl
                have y3 := CC.cell 3 rfl
                have dk : decide (ev.kind = 0) = false := decide_eq_false kn
                have dk2 : (ev.kind != 0) = true := by simpa using kn
                have dsz := D9.out.size
                clear b8 b9 ST D8 CC kn
                go_upto_region 15 with fail
                obtain ⟨w9, hw9⟩ : ∃ x, w8.alloc (.cells #[.int .i64 ev.kind, .int .i64 ev.id, .string ev.old, .string ev.new] 74) = x := ⟨_, rfl⟩
                rw [show [Value.int .i64 ev.kind, .int .i64 ev.id, .string ev.old, .string ev.new].toArray = #[.int .i64 ev.kind, .int .i64 ev.id, .string ev.old, .string ev.new] from rfl] at y0 y1 y2 y3
                rw [hw9] at D9 y0 y1 y2 y3 dsz
                rw [hw9]
                clear hw9
                go_wp2_with (at_builtin; refine app_ed1 w9 rfl _ _ rfl w.heap.size O L oc p rfl D9.out.p ev rfl (by omega) dsz ?_; intro A' c' w10 p1 p2)
                go_roundw
                case rel =>
                  have nb := fun x hx => (OwnR.block D9.out.p x hx).1
                  exact ⟨j + 1, L + 1, k7, A', c', p ++ [ev], by omega, rfl, by push_cast; rfl, SN.out.1, SN.out.2, ⟨D9.out.src.grown p2 (fun x hx => by have := nb x hx; omega), only_new D9.out.gr p2 nb, D9.out.t.kept p2 (own_ne D9.out.t.1 D9.out.p.1 (by decide)), p1⟩, by omega⟩
                case measure => simp [intOf]; omega
        · have e2 : old.toList.isEmpty = false := by rw [Bool.eq_false_iff]; exact fun hh => hold (bytes_mt.1 hh)
          have OS := Lib.hid (OT.out.resolve_left hold)
          clear hold
          go_wp2_with fail
          refine (one_any 3 g An nn cn bs k4 _ D4.out.src (by omega) (by omega) (by omega)).mono ?_
          rintro e w5 ⟨q3, k5, rfl, k50, k51, hs5, hg5⟩
          have D5 := Lib.hid (D4.out.next hs5 hg5 htb gl)
          clear hs5 hg5 D4
          cases q3
          · go_wp2_with fail
            refine (one_any 20 g An nn cn bs k5 _ D5.out.src (by omega) (by omega) (by omega)).mono ?_
            rintro e w6 ⟨q20, k6, rfl, k60, k61, hs6, hg6⟩
            have D6 := Lib.hid (D5.out.next hs6 hg6 htb gl)
            clear hs6 hg6 D5
            cases q20
            · go_upto_region 14 with fail
              have d1 : True := trivial
              by_cases hon : old = nw
              · have ST := Lib.hid (fun W => l07Step_same ((j : Int) + 1) old nw hon W)
                clear hon
                go_wp2_with fail
                refine (ST.out _).mono ?_
                rintro e w8 ⟨rfl, b8⟩
                have D8 := Lib.hid (D6.out.below b8)
                have b9 := bel_alloc w8 (.cells #[.int .i64 0, .int .i64 0, .string ByteArray.empty, .string ByteArray.empty] 74)
                have D9 := Lib.hid (D8.out.below b9)
                have y0 := (Cs.new w8 [.int .i64 0, .int .i64 0, .string ByteArray.empty, .string ByteArray.empty] 74).cell 0 rfl
                clear b8 b9 ST D8
                go_wp2_with fail
                go_roundw
                case rel => exact ⟨j + 1, L, k6, O, oc, p, by omega, rfl, by push_cast; rfl, HP.out, fun e he => by have := HI.out e he; omega, D9.out, by omega⟩
                case measure => simp [intOf]; omega
              · have ST := Lib.hid (fun W => l07Step_diff ((j : Int) + 1) old nw hon W)
                have SN := Lib.hid (PD.snoc HP.out HI.out hj (.inr OS.out) (.inr NW.out) hon)
                have kn := stp_kind ((j : Int) + 1) old nw
                obtain ⟨ev, hev⟩ : ∃ x, stp ((j : Int) + 1) old nw = x := ⟨_, rfl⟩
                rw [hev] at ST SN kn
                clear hon hev
                go_wp2_with fail
                refine (ST.out _).mono ?_
                rintro e w8 ⟨rfl, b8⟩
                have D8 := Lib.hid (D6.out.below b8)
                have b9 := bel_alloc w8 (.cells #[.int .i64 ev.kind, .int .i64 ev.id, .string ev.old, .string ev.new] 74)
                have D9 := Lib.hid (D8.out.below b9)
                have CC := Cs.new w8 [.int .i64 ev.kind, .int .i64 ev.id, .string ev.old, .string ev.new] 74
                have y0 := CC.cell 0 rfl
                have y1 := CC.cell 1 rfl
                have y2 := CC.cell 2 rfl
                have y3 := CC.cell 3 rfl
                have dk : decide (ev.kind = 0) = false := decide_eq_false kn
                have dk2 : (ev.kind != 0) = true := by simpa using kn
                have dsz := D9.out.size
                clear b8 b9 ST D8 CC kn
                go_upto_region 15 with fail
                obtain ⟨w9, hw9⟩ : ∃ x, w8.alloc (.cells #[.int .i64 ev.kind, .int .i64 ev.id, .string ev.old, .string ev.new] 74) = x := ⟨_, rfl⟩
                rw [show [Value.int .i64 ev.kind, .int .i64 ev.id, .string ev.old, .string ev.new].toArray = #[.int .i64 ev.kind, .int .i64 ev.id, .string ev.old, .string ev.new] from rfl] at y0 y1 y2 y3
                rw [hw9] at D9 y0 y1 y2 y3 dsz
                rw [hw9]
                clear hw9
                go_wp2_with (at_builtin; refine app_ed1 w9 rfl _ _ rfl w.heap.size O L oc p rfl D9.out.p ev rfl (by omega) dsz ?_; intro A' c' w10 p1 p2)
                go_roundw
                case rel =>
                  have nb := fun x hx => (OwnR.block D9.out.p x hx).1
                  exact ⟨j + 1, L + 1, k6, A', c', p ++ [ev], by omega, rfl, by push_cast; rfl, SN.out.1, SN.out.2, ⟨D9.out.src.grown p2 (fun x hx => by have := nb x hx; omega), only_new D9.out.gr p2 nb, D9.out.t.kept p2 (own_ne D9.out.t.1 D9.out.p.1 (by decide)), p1⟩, by omega⟩
                case measure => simp [intOf]; omega
            · go_wp2_with fail
              refine (sentence_any g An nn cn bs k6 _ D6.out.src (by omega)).mono ?_
              rintro e w7 ⟨sn, k7, rfl, hsn, k70, k71, hs7, hg7⟩
              have D7 := Lib.hid (D6.out.next hs7 hg7 htb gl)
              have SNT := Lib.hid hsn
              clear hs7 hg7 D6 hsn
              go_upto_region 14 with fail
              have d1 : True := trivial
              by_cases hon : sn = nw
              · have ST := Lib.hid (fun W => l07Step_same ((j : Int) + 1) sn nw hon W)
                clear hon
                go_wp2_with fail
                refine (ST.out _).mono ?_
                rintro e w8 ⟨rfl, b8⟩
                have D8 := Lib.hid (D7.out.below b8)
                have b9 := bel_alloc w8 (.cells #[.int .i64 0, .int .i64 0, .string ByteArray.empty, .string ByteArray.empty] 74)
                have D9 := Lib.hid (D8.out.below b9)
                have y0 := (Cs.new w8 [.int .i64 0, .int .i64 0, .string ByteArray.empty, .string ByteArray.empty] 74).cell 0 rfl
                clear b8 b9 ST D8
                go_wp2_with fail
                go_roundw
                case rel => exact ⟨j + 1, L, k7, O, oc, p, by omega, rfl, by push_cast; rfl, HP.out, fun e he => by have := HI.out e he; omega, D9.out, by omega⟩
                case measure => simp [intOf]; omega
              · have ST := Lib.hid (fun W => l07Step_diff ((j : Int) + 1) sn nw hon W)
                have SN := Lib.hid (PD.snoc HP.out HI.out hj (.inr SNT.out) (.inr NW.out) hon)
                have kn := stp_kind ((j : Int) + 1) sn nw
                obtain ⟨ev, hev⟩ : ∃ x, stp ((j : Int) + 1) sn nw = x := ⟨_, rfl⟩
                rw [hev] at ST SN kn
                clear hon hev
                go_wp2_with fail
                refine (ST.out _).mono ?_
                rintro e w8 ⟨rfl, b8⟩
                have D8 := Lib.hid (D7.out.below b8)
                have b9 := bel_alloc w8 (.cells #[.int .i64 ev.kind, .int .i64 ev.id, .string ev.old, .string ev.new] 74)
                have D9 := Lib.hid (D8.out.below b9)
                have CC := Cs.new w8 [.int .i64 ev.kind, .int .i64 ev.id, .string ev.old, .string ev.new] 74
                have y0 := CC.cell 0 rfl
                have y1 := CC.cell 1 rfl
                have y2 := CC.cell 2 rfl
                have y3 := CC.cell 3 rfl
                have dk : decide (ev.kind = 0) = false := decide_eq_false kn
                have dk2 : (ev.kind != 0) = true := by simpa using kn
                have dsz := D9.out.size
                clear b8 b9 ST D8 CC kn
                go_upto_region 15 with fail
                obtain ⟨w9, hw9⟩ : ∃ x, w8.alloc (.cells #[.int .i64 ev.kind, .int .i64 ev.id, .string ev.old, .string ev.new] 74) = x := ⟨_, rfl⟩
                rw [show [Value.int .i64 ev.kind, .int .i64 ev.id, .string ev.old, .string ev.new].toArray = #[.int .i64 ev.kind, .int .i64 ev.id, .string ev.old, .string ev.new] from rfl] at y0 y1 y2 y3
                rw [hw9] at D9 y0 y1 y2 y3 dsz
                rw [hw9]
                clear hw9
                go_wp2_with (at_builtin; refine app_ed1 w9 rfl _ _ rfl w.heap.size O L oc p rfl D9.out.p ev rfl (by omega) dsz ?_; intro A' c' w10 p1 p2)
                go_roundw
                case rel =>
                  have nb := fun x hx => (OwnR.block D9.out.p x hx).1
                  exact ⟨j + 1, L + 1, k7, A', c', p ++ [ev], by omega, rfl, by push_cast; rfl, SN.out.1, SN.out.2, ⟨D9.out.src.grown p2 (fun x hx => by have := nb x hx; omega), only_new D9.out.gr p2 nb, D9.out.t.kept p2 (own_ne D9.out.t.1 D9.out.p.1 (by decide)), p1⟩, by omega⟩
                case measure => simp [intOf]; omega
          · go_wp2_with fail
            refine (one_any 20 g An nn cn bs k5 _ D5.out.src (by omega) (by omega) (by omega)).mono ?_
            rintro e w6 ⟨q20, k6, rfl, k60, k61, hs6, hg6⟩
            have D6 := Lib.hid (D5.out.next hs6 hg6 htb gl)
            clear hs6 hg6 D5
            cases q20
            · go_upto_region 14 with fail
              have d1 : True := trivial
              by_cases hon : old = ByteArray.empty
              · have ST := Lib.hid (fun W => l07Step_same ((j : Int) + 1) old ByteArray.empty hon W)
                clear hon
                go_wp2_with fail
                refine (ST.out _).mono ?_
                rintro e w8 ⟨rfl, b8⟩
                have D8 := Lib.hid (D6.out.below b8)
                have b9 := bel_alloc w8 (.cells #[.int .i64 0, .int .i64 0, .string ByteArray.empty, .string ByteArray.empty] 74)
                have D9 := Lib.hid (D8.out.below b9)
                have y0 := (Cs.new w8 [.int .i64 0, .int .i64 0, .string ByteArray.empty, .string ByteArray.empty] 74).cell 0 rfl
                clear b8 b9 ST D8
                go_wp2_with fail
                go_roundw
                case rel => exact ⟨j + 1, L, k6, O, oc, p, by omega, rfl, by push_cast; rfl, HP.out, fun e he => by have := HI.out e he; omega, D9.out, by omega⟩
                case measure => simp [intOf]; omega
              · have ST := Lib.hid (fun W => l07Step_diff ((j : Int) + 1) old ByteArray.empty hon W)
                have SN := Lib.hid (PD.snoc HP.out HI.out hj (.inr OS.out) (.inl rfl) hon)
                have kn := stp_kind ((j : Int) + 1) old ByteArray.empty
                obtain ⟨ev, hev⟩ : ∃ x, stp ((j : Int) + 1) old ByteArray.empty = x := ⟨_, rfl⟩
                rw [hev] at ST SN kn
                clear hon hev
                go_wp2_with fail
                refine (ST.out _).mono ?_
                rintro e w8 ⟨rfl, b8⟩
                have D8 := Lib.hid (D6.out.below b8)
                have b9 := bel_alloc w8 (.cells #[.int .i64 ev.kind, .int .i64 ev.id, .string ev.old, .string ev.new] 74)
                have D9 := Lib.hid (D8.out.below b9)
                have CC := Cs.new w8 [.int .i64 ev.kind, .int .i64 ev.id, .string ev.old, .string ev.new] 74
                have y0 := CC.cell 0 rfl
                have y1 := CC.cell 1 rfl
                have y2 := CC.cell 2 rfl
                have y3 := CC.cell 3 rfl
                have dk : decide (ev.kind = 0) = false := decide_eq_false kn
                have dk2 : (ev.kind != 0) = true := by simpa using kn
                have dsz := D9.out.size
                clear b8 b9 ST D8 CC kn
                go_upto_region 15 with fail
                obtain ⟨w9, hw9⟩ : ∃ x, w8.alloc (.cells #[.int .i64 ev.kind, .int .i64 ev.id, .string ev.old, .string ev.new] 74) = x := ⟨_, rfl⟩
                rw [show [Value.int .i64 ev.kind, .int .i64 ev.id, .string ev.old, .string ev.new].toArray = #[.int .i64 ev.kind, .int .i64 ev.id, .string ev.old, .string ev.new] from rfl] at y0 y1 y2 y3
                rw [hw9] at D9 y0 y1 y2 y3 dsz
                rw [hw9]
                clear hw9
                go_wp2_with (at_builtin; refine app_ed1 w9 rfl _ _ rfl w.heap.size O L oc p rfl D9.out.p ev rfl (by omega) dsz ?_; intro A' c' w10 p1 p2)
                go_roundw
                case rel =>
                  have nb := fun x hx => (OwnR.block D9.out.p x hx).1
                  exact ⟨j + 1, L + 1, k6, A', c', p ++ [ev], by omega, rfl, by push_cast; rfl, SN.out.1, SN.out.2, ⟨D9.out.src.grown p2 (fun x hx => by have := nb x hx; omega), only_new D9.out.gr p2 nb, D9.out.t.kept p2 (own_ne D9.out.t.1 D9.out.p.1 (by decide)), p1⟩, by omega⟩
                case measure => simp [intOf]; omega
            · go_wp2_with fail
              refine (sentence_any g An nn cn bs k6 _ D6.out.src (by omega)).mono ?_
              rintro e w7 ⟨sn, k7, rfl, hsn, k70, k71, hs7, hg7⟩
              have D7 := Lib.hid (D6.out.next hs7 hg7 htb gl)
              have SNT := Lib.hid hsn
              clear hs7 hg7 D6 hsn
              go_upto_region 14 with fail
              have d1 : True := trivial
              by_cases hon : sn = ByteArray.empty
              · have ST := Lib.hid (fun W => l07Step_same ((j : Int) + 1) sn ByteArray.empty hon W)
                clear hon
                go_wp2_with fail
                refine (ST.out _).mono ?_
                rintro e w8 ⟨rfl, b8⟩
                have D8 := Lib.hid (D7.out.below b8)
                have b9 := bel_alloc w8 (.cells #[.int .i64 0, .int .i64 0, .string ByteArray.empty, .string ByteArray.empty] 74)
                have D9 := Lib.hid (D8.out.below b9)
                have y0 := (Cs.new w8 [.int .i64 0, .int .i64 0, .string ByteArray.empty, .string ByteArray.empty] 74).cell 0 rfl
                clear b8 b9 ST D8
                go_wp2_with fail
                go_roundw
                case rel => exact ⟨j + 1, L, k7, O, oc, p, by omega, rfl, by push_cast; rfl, HP.out, fun e he => by have := HI.out e he; omega, D9.out, by omega⟩
                case measure => simp [intOf]; omega
              · have ST := Lib.hid (fun W => l07Step_diff ((j : Int) + 1) sn ByteArray.empty hon W)
                have SN := Lib.hid (PD.snoc HP.out HI.out hj (.inr SNT.out) (.inl rfl) hon)
                have kn := stp_kind ((j : Int) + 1) sn ByteArray.empty
                obtain ⟨ev, hev⟩ : ∃ x, stp ((j : Int) + 1) sn ByteArray.empty = x := ⟨_, rfl⟩
                rw [hev] at ST SN kn
                clear hon hev
                go_wp2_with fail
                refine (ST.out _).mono ?_
                rintro e w8 ⟨rfl, b8⟩
                have D8 := Lib.hid (D7.out.below b8)
                have b9 := bel_alloc w8 (.cells #[.int .i64 ev.kind, .int .i64 ev.id, .string ev.old, .string ev.new] 74)
                have D9 := Lib.hid (D8.out.below b9)
                have CC := Cs.new w8 [.int .i64 ev.kind, .int .i64 ev.id, .string ev.old, .string ev.new] 74
                have y0 := CC.cell 0 rfl
                have y1 := CC.cell 1 rfl
                have y2 := CC.cell 2 rfl
                have y3 := CC.cell 3 rfl
                have dk : decide (ev.kind = 0) = false := decide_eq_false kn
                have dk2 : (ev.kind != 0) = true := by simpa using kn
                have dsz := D9.out.size
                clear b8 b9 ST D8 CC kn
                go_upto_region 15 with fail
                obtain ⟨w9, hw9⟩ : ∃ x, w8.alloc (.cells #[.int .i64 ev.kind, .int .i64 ev.id, .string ev.old, .string ev.new] 74) = x := ⟨_, rfl⟩
                rw [show [Value.int .i64 ev.kind, .int .i64 ev.id, .string ev.old, .string ev.new].toArray = #[.int .i64 ev.kind, .int .i64 ev.id, .string ev.old, .string ev.new] from rfl] at y0 y1 y2 y3
                rw [hw9] at D9 y0 y1 y2 y3 dsz
                rw [hw9]
                clear hw9
                go_wp2_with (at_builtin; refine app_ed1 w9 rfl _ _ rfl w.heap.size O L oc p rfl D9.out.p ev rfl (by omega) dsz ?_; intro A' c' w10 p1 p2)
                go_roundw
                case rel =>
                  have nb := fun x hx => (OwnR.block D9.out.p x hx).1
                  exact ⟨j + 1, L + 1, k7, A', c', p ++ [ev], by omega, rfl, by push_cast; rfl, SN.out.1, SN.out.2, ⟨D9.out.src.grown p2 (fun x hx => by have := nb x hx; omega), only_new D9.out.gr p2 nb, D9.out.t.kept p2 (own_ne D9.out.t.1 D9.out.p.1 (by decide)), p1⟩, by omega⟩
                case measure => simp [intOf]; omega
    · obtain rfl : j = 16 := by omega
      go_wp2_with fail
      go_ret
      exact ⟨p, O, L, oc, kk, rfl, ⟨HP.out, fun e he => by have := HI.out e he; omega⟩, HD.out.p, HD.out.t, by omega, HD.out.src, HD.out.gr⟩
end Go.Proofs.Ytcoladhppbknnaa
