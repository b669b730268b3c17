/- Statutes and patches, without a program: texts by number, what a patch does, differences, inverses, compositions. -/
import Derived.Test.YtcoladhppbknnaaPat2
import Derived.Test.YtcoladhppbknnaaStat
namespace Go.Proofs.Ytcoladhppbknnaa
set_option linter.unusedVariables false
theorem bytes_ext {a b : ByteArray} : a.toList = b.toList ↔ a = b := by
  rw [ByteArray.toList_eq, ByteArray.toList_eq]
  constructor
  · intro h
    have := Array.toList_inj.1 h
    cases a; cases b
    simp_all
  · rintro rfl; rfl
theorem bytes_mt {a : ByteArray} : a.toList.isEmpty = true ↔ a = ByteArray.empty := by
  rw [List.isEmpty_iff, show ([] : List UInt8) = ByteArray.empty.toList by rw [ByteArray.toList_eq]; rfl, bytes_ext]
theorem senB_ne {t : ByteArray} (h : senB t = true) : t ≠ ByteArray.empty := by
  rintro rfl
  revert h
  decide
theorem sorted_ext {α : Type} {f : α → Int} : ∀ {s t : List α}, s.Pairwise (fun a b => f a < f b) → t.Pairwise (fun a b => f a < f b) → (∀ a, a ∈ s ↔ a ∈ t) → s = t
  | [], t, _, _, h => by
    cases t with
    | nil => rfl
    | cons b t => exact absurd ((h b).2 (List.mem_cons_self ..)) (by simp)
  | a :: s, [], _, _, h => absurd ((h a).1 (List.mem_cons_self ..)) (by simp)
  | a :: s, b :: t, hs, ht, h => by
    rw [List.pairwise_cons] at hs ht
    have ab : a = b := by
      rcases List.mem_cons.1 ((h a).1 (List.mem_cons_self ..)) with e | h1
      · exact e
      · rcases List.mem_cons.1 ((h b).2 (List.mem_cons_self ..)) with e | h2
        · exact e.symm
        · have := ht.1 a h1
          have := hs.1 b h2
          omega
    subst ab
    rw [sorted_ext hs.2 ht.2 (fun x => ?_)]
    constructor
    · intro hx
      rcases List.mem_cons.1 ((h x).1 (List.mem_cons_of_mem _ hx)) with e | h1
      · subst e; have := hs.1 x hx; omega
      · exact h1
    · intro hx
      rcases List.mem_cons.1 ((h x).2 (List.mem_cons_of_mem _ hx)) with e | h1
      · subst e; have := ht.1 x hx; omega
      · exact h1
/-! ### statutes -/
def fnd : List Ar → Int → ByteArray
  | [], _ => ByteArray.empty
  | a :: s, id => if a.id = id then a.text else fnd s id
structure SOk (s : List Ar) : Prop where
  srt : s.Pairwise (fun a b => a.id < b.id)
  txt : ∀ a ∈ s, senB a.text = true
  rng : ∀ a ∈ s, 1 ≤ a.id ∧ a.id ≤ 99
theorem fnd_none {s : List Ar} {id : Int} (h : ∀ a ∈ s, a.id ≠ id) : fnd s id = ByteArray.empty := by
  induction s with
  | nil => rfl
  | cons a s ih =>
    unfold fnd
    rw [if_neg (h a (List.mem_cons_self ..)), ih (fun b hb => h b (List.mem_cons_of_mem _ hb))]
theorem fnd_mem {s : List Ar} (hs : s.Pairwise (fun a b => a.id < b.id)) {a : Ar} (ha : a ∈ s) : fnd s a.id = a.text := by
  induction s with
  | nil => cases ha
  | cons b s ih =>
    rw [List.pairwise_cons] at hs
    unfold fnd
    rcases List.mem_cons.1 ha with rfl | ha
    · rw [if_pos rfl]
    · rw [if_neg (by have := hs.1 a ha; omega), ih hs.2 ha]
theorem fnd_some {s : List Ar} {id : Int} (h : fnd s id ≠ ByteArray.empty) : ∃ a ∈ s, a.id = id ∧ a.text = fnd s id := by
  induction s with
  | nil => exact absurd rfl h
  | cons a s ih =>
    unfold fnd at h ⊢
    by_cases e : a.id = id
    · rw [if_pos e]
      exact ⟨a, List.mem_cons_self .., e, rfl⟩
    · rw [if_neg e] at h ⊢
      obtain ⟨b, hb, h1, h2⟩ := ih h
      exact ⟨b, List.mem_cons_of_mem _ hb, h1, h2⟩
theorem st_ext {s t : List Ar} (hs : SOk s) (ht : SOk t) (h : ∀ id, fnd s id = fnd t id) : s = t := by
  have key : ∀ {s t : List Ar}, SOk s → SOk t → (∀ id, fnd s id = fnd t id) → ∀ a, a ∈ s → a ∈ t := by
    intro s t hs ht h a ha
    have h1 := fnd_mem hs.srt ha
    have h2 := senB_ne (hs.txt a ha)
    rw [h a.id] at h1
    obtain ⟨b, hb, h3, h4⟩ := fnd_some (s := t) (id := a.id) (by rw [h1]; exact h2)
    rw [h1] at h4
    have : b = a := by
      cases a; cases b
      simp_all
    exact this ▸ hb
  exact sorted_ext hs.srt ht.srt fun a => ⟨key hs ht h a, key ht hs (fun id => (h id).symm) a⟩
theorem SOk.nil : SOk [] := ⟨List.Pairwise.nil, by simp, by simp⟩
/-! ### patches -/
def edo : List Ed → Int → Option Ed
  | [], _ => none
  | e :: p, id => if e.id = id then some e else edo p id
structure POk (p : List Ed) : Prop where
  srt : p.Pairwise (fun a b => a.id < b.id)
  ed : ∀ e ∈ p, edB e = true
  rng : ∀ e ∈ p, 1 ≤ e.id ∧ e.id ≤ 99
theorem edo_none {p : List Ed} {id : Int} (h : ∀ e ∈ p, e.id ≠ id) : edo p id = none := by
  induction p with
  | nil => rfl
  | cons a s ih =>
    unfold edo
    rw [if_neg (h a (List.mem_cons_self ..)), ih (fun b hb => h b (List.mem_cons_of_mem _ hb))]
theorem edo_mem {p : List Ed} (hs : p.Pairwise (fun a b => a.id < b.id)) {e : Ed} (he : e ∈ p) : edo p e.id = some e := by
  induction p with
  | nil => cases he
  | cons b s ih =>
    rw [List.pairwise_cons] at hs
    unfold edo
    rcases List.mem_cons.1 he with rfl | he
    · rw [if_pos rfl]
    · rw [if_neg (by have := hs.1 e he; omega), ih hs.2 he]
theorem edo_some {p : List Ed} {id : Int} {e : Ed} (h : edo p id = some e) : e ∈ p ∧ e.id = id := by
  induction p with
  | nil => cases h
  | cons a s ih =>
    unfold edo at h
    by_cases c : a.id = id
    · rw [if_pos c] at h
      injection h with h
      subst h
      exact ⟨List.mem_cons_self .., c⟩
    · rw [if_neg c] at h
      exact ⟨List.mem_cons_of_mem _ (ih h).1, (ih h).2⟩
theorem pt_ext {p q : List Ed} (hp : p.Pairwise (fun a b => a.id < b.id)) (hq : q.Pairwise (fun a b => a.id < b.id)) (h : ∀ id, edo p id = edo q id) : p = q :=
  sorted_ext hp hq fun a => ⟨fun ha => (edo_some ((h a.id).symm.trans (edo_mem hp ha))).1, fun ha => (edo_some ((h a.id).trans (edo_mem hq ha))).1⟩
theorem edo_app (p q : List Ed) (id : Int) : edo (p ++ q) id = (edo p id).or (edo q id) := by
  induction p with
  | nil => rfl
  | cons e p ih =>
    show (if e.id = id then some e else edo (p ++ q) id) = (if e.id = id then some e else edo p id).or (edo q id)
    by_cases c : e.id = id
    · rw [if_pos c, if_pos c]; rfl
    · rw [if_neg c, if_neg c, ih]
theorem POk.sub {p q : List Ed} (h : POk p) (hs : q.Sublist p) : POk q := ⟨h.srt.sublist hs, fun e he => h.ed e (hs.mem he), fun e he => h.rng e (hs.mem he)⟩
/-- The edit that leads from a text to another one. -/
def stp (id : Int) (old new : ByteArray) : Ed := if old = ByteArray.empty then ⟨1, id, ByteArray.empty, new⟩ else if new = ByteArray.empty then ⟨2, id, old, ByteArray.empty⟩ else ⟨3, id, old, new⟩
theorem stp_id (id : Int) (old new : ByteArray) : (stp id old new).id = id := by unfold stp; split <;> (try split) <;> rfl
theorem stp_old (id : Int) (old new : ByteArray) : (stp id old new).old = old := by
  unfold stp
  split
  · rename_i h; exact h.symm
  · split <;> rfl
theorem stp_new (id : Int) (old new : ByteArray) : (stp id old new).new = new := by
  unfold stp
  split
  · rfl
  · split
    · rename_i h; exact h.symm
    · rfl
/-- A text is one of an article, or none. -/
def Txt (t : ByteArray) : Prop := t = ByteArray.empty ∨ senB t = true
theorem edB_cases {e : Ed} (h : edB e = true) : (e.kind = 1 ∧ e.old = ByteArray.empty ∧ senB e.new = true) ∨ (e.kind = 2 ∧ senB e.old = true ∧ e.new = ByteArray.empty) ∨ (e.kind = 3 ∧ senB e.old = true ∧ senB e.new = true ∧ e.old ≠ e.new) := by
  unfold edB at h
  split at h
  · rename_i k
    rw [Bool.and_eq_true, bytes_mt] at h
    exact .inl ⟨k, h.1, h.2⟩
  · split at h
    · rename_i k
      rw [Bool.and_eq_true, bytes_mt] at h
      exact .inr (.inl ⟨k, h.1, h.2⟩)
    · split at h
      · rename_i k
        rw [Bool.and_eq_true, Bool.and_eq_true] at h
        refine .inr (.inr ⟨k, h.1.1, h.1.2, fun e => ?_⟩)
        rw [e] at h
        simp at h
      · cases h
theorem edB_of {e : Ed} (h : (e.kind = 1 ∧ e.old = ByteArray.empty ∧ senB e.new = true) ∨ (e.kind = 2 ∧ senB e.old = true ∧ e.new = ByteArray.empty) ∨ (e.kind = 3 ∧ senB e.old = true ∧ senB e.new = true ∧ e.old ≠ e.new)) : edB e = true := by
  unfold edB
  rcases h with ⟨k, h1, h2⟩ | ⟨k, h1, h2⟩ | ⟨k, h1, h2, h3⟩
  · rw [if_pos k, h2, bytes_mt.2 h1]; rfl
  · rw [if_neg (by omega), if_pos k, h1, bytes_mt.2 h2]; rfl
  · rw [if_neg (by omega), if_neg (by omega), if_pos k, h1, h2]
    have : (e.old.toList == e.new.toList) = false := by
      rw [beq_eq_false_iff_ne]
      exact fun hh => h3 (bytes_ext.1 hh)
    rw [this]; rfl
theorem ed_txt {e : Ed} (h : edB e = true) : Txt e.old ∧ Txt e.new ∧ e.old ≠ e.new := by
  rcases edB_cases h with ⟨_, h1, h2⟩ | ⟨_, h1, h2⟩ | ⟨_, h1, h2, h3⟩
  · exact ⟨.inl h1, .inr h2, fun e => senB_ne h2 (e ▸ h1)⟩
  · exact ⟨.inr h1, .inl h2, fun e => senB_ne h1 (e ▸ h2)⟩
  · exact ⟨.inr h1, .inr h2, h3⟩
theorem stp_ok {id : Int} {old new : ByteArray} (h1 : Txt old) (h2 : Txt new) (h3 : old ≠ new) : edB (stp id old new) = true := by
  apply edB_of
  unfold stp
  by_cases c : old = ByteArray.empty
  · rw [if_pos c]
    refine .inl ⟨rfl, rfl, ?_⟩
    rcases h2 with h2 | h2
    · exact absurd (c.trans h2.symm) h3
    · exact h2
  · have h1' : senB old = true := h1.resolve_left c
    rw [if_neg c]
    by_cases d : new = ByteArray.empty
    · rw [if_pos d]
      exact .inr (.inl ⟨rfl, h1', rfl⟩)
    · rw [if_neg d]
      exact .inr (.inr ⟨rfl, h1', h2.resolve_left d, h3⟩)
theorem stp_self {e : Ed} (h : edB e = true) : stp e.id e.old e.new = e := by
  obtain ⟨kd, id, old, new⟩ := e
  unfold stp
  rcases edB_cases h with ⟨h0, h1, h2⟩ | ⟨h0, h1, h2⟩ | ⟨h0, h1, h2, h3⟩
  · simp only at h0 h1 ⊢
    rw [if_pos h1, h0, h1]
  · simp only at h0 h1 h2 ⊢
    rw [if_neg (senB_ne h1), if_pos h2, h0, h2]
  · simp only at h0 h1 h2 ⊢
    rw [if_neg (senB_ne h1), if_neg (senB_ne h2), h0]
def edL (id : Int) (old new : ByteArray) : List Ed := if old = new then [] else [stp id old new]
theorem edL_self {e : Ed} (h : edB e = true) : edL e.id e.old e.new = [e] := by
  unfold edL
  rw [if_neg (ed_txt h).2.2, stp_self h]
/-! ### what a patch does -/
def rmA : List Ar → Int → List Ar
  | [], _ => []
  | a :: s, id => if a.id = id then s else a :: rmA s id
def stA : List Ar → Int → Ar → List Ar
  | [], _, _ => []
  | a :: s, id, x => if a.id = id then x :: s else a :: stA s id x
def inA : List Ar → Ar → List Ar
  | [], x => [x]
  | a :: s, x => if x.id < a.id then x :: a :: s else a :: inA s x
def ixA (s : List Ar) (id : Int) : Nat := s.findIdx fun a => a.id == id
def ixG (s : List Ar) (id : Int) : Nat := s.findIdx fun a => decide (id < a.id)
theorem erase_ix (s : List Ar) (id : Int) : s.eraseIdx (ixA s id) = rmA s id := by
  induction s with
  | nil => rfl
  | cons a s ih =>
    unfold rmA ixA
    rw [List.findIdx_cons]
    by_cases c : a.id = id
    · rw [if_pos c, show (a.id == id) = true by simpa using c]; rfl
    · rw [if_neg c, show (a.id == id) = false by simpa using c]
      show a :: s.eraseIdx (ixA s id) = _
      rw [ih]
theorem set_ix (s : List Ar) (id : Int) (x : Ar) : s.set (ixA s id) x = stA s id x := by
  induction s with
  | nil => rfl
  | cons a s ih =>
    unfold stA ixA
    rw [List.findIdx_cons]
    by_cases c : a.id = id
    · rw [if_pos c, show (a.id == id) = true by simpa using c]; rfl
    · rw [if_neg c, show (a.id == id) = false by simpa using c]
      show a :: s.set (ixA s id) x = _
      rw [ih]
theorem ins_ix (s : List Ar) (x : Ar) : s.take (ixG s x.id) ++ x :: s.drop (ixG s x.id) = inA s x := by
  induction s with
  | nil => rfl
  | cons a s ih =>
    unfold inA ixG
    rw [List.findIdx_cons]
    by_cases c : x.id < a.id
    · rw [if_pos c, decide_eq_true c]; rfl
    · rw [if_neg c, decide_eq_false c]
      show a :: (s.take (ixG s x.id) ++ x :: s.drop (ixG s x.id)) = _
      rw [ih]
theorem rmA_sub (s : List Ar) (id : Int) : (rmA s id).Sublist s := by
  induction s with
  | nil => exact List.Sublist.refl _
  | cons a s ih =>
    unfold rmA
    split
    · exact List.sublist_cons_self a s
    · exact ih.cons_cons a
theorem fnd_rm {s : List Ar} (hs : s.Pairwise (fun a b => a.id < b.id)) (id j : Int) : fnd (rmA s id) j = if j = id then ByteArray.empty else fnd s j := by
  induction s with
  | nil => unfold rmA fnd; simp
  | cons a s ih =>
    rw [List.pairwise_cons] at hs
    unfold rmA
    by_cases c : a.id = id
    · rw [if_pos c]
      by_cases d : j = id
      · rw [if_pos d]
        exact fnd_none fun b hb => by have := hs.1 b hb; omega
      · rw [if_neg d]
        conv => rhs; unfold fnd
        rw [if_neg (by omega)]
    · rw [if_neg c]
      unfold fnd
      by_cases d : a.id = j
      · rw [if_pos d, if_pos d, if_neg (by omega)]
      · rw [if_neg d, if_neg d, ih hs.2]
theorem stA_mem {s : List Ar} {id : Int} {x b : Ar} (h : b ∈ stA s id x) : b ∈ s ∨ b = x := by
  induction s with
  | nil => cases h
  | cons a s ih =>
    unfold stA at h
    by_cases c : a.id = id
    · rw [if_pos c] at h
      rcases List.mem_cons.1 h with h | h
      · exact .inr h
      · exact .inl (List.mem_cons_of_mem _ h)
    · rw [if_neg c] at h
      rcases List.mem_cons.1 h with h | h
      · exact .inl (h ▸ List.mem_cons_self ..)
      · rcases ih h with h | h
        · exact .inl (List.mem_cons_of_mem _ h)
        · exact .inr h
theorem stA_ids {s : List Ar} {x : Ar} : ∀ b ∈ stA s x.id x, ∃ c ∈ s, c.id = b.id := by
  induction s with
  | nil => intro b h; cases h
  | cons a s ih =>
    intro b h
    unfold stA at h
    by_cases c : a.id = x.id
    · rw [if_pos c] at h
      rcases List.mem_cons.1 h with h | h
      · exact ⟨a, List.mem_cons_self .., h ▸ c⟩
      · exact ⟨b, List.mem_cons_of_mem _ h, rfl⟩
    · rw [if_neg c] at h
      rcases List.mem_cons.1 h with h | h
      · exact ⟨a, List.mem_cons_self .., h ▸ rfl⟩
      · obtain ⟨d, hd, e⟩ := ih b h
        exact ⟨d, List.mem_cons_of_mem _ hd, e⟩
theorem stA_srt {s : List Ar} {x : Ar} (hs : s.Pairwise (fun a b => a.id < b.id)) : (stA s x.id x).Pairwise (fun a b => a.id < b.id) := by
  induction s with
  | nil => exact List.Pairwise.nil
  | cons a s ih =>
    rw [List.pairwise_cons] at hs
    unfold stA
    by_cases c : a.id = x.id
    · rw [if_pos c, List.pairwise_cons]
      exact ⟨fun b hb => by have := hs.1 b hb; omega, hs.2⟩
    · rw [if_neg c, List.pairwise_cons]
      refine ⟨fun b hb => ?_, ih hs.2⟩
      obtain ⟨d, hd, e⟩ := stA_ids b hb
      have := hs.1 d hd
      omega
theorem fnd_st {s : List Ar} {x : Ar} (hx : ∃ a ∈ s, a.id = x.id) (j : Int) : fnd (stA s x.id x) j = if j = x.id then x.text else fnd s j := by
  induction s with
  | nil => obtain ⟨a, ha, _⟩ := hx; cases ha
  | cons a s ih =>
    unfold stA
    by_cases c : a.id = x.id
    · rw [if_pos c]
      unfold fnd
      by_cases d : j = x.id
      · rw [if_pos d, if_pos d.symm]
      · rw [if_neg (by omega), if_neg d, if_neg (by omega)]
    · rw [if_neg c]
      have hx' : ∃ a ∈ s, a.id = x.id := by
        obtain ⟨b, hb, e⟩ := hx
        rcases List.mem_cons.1 hb with rfl | hb
        · exact absurd e c
        · exact ⟨b, hb, e⟩
      unfold fnd
      by_cases d : a.id = j
      · rw [if_pos d, if_pos d, if_neg (by omega)]
      · rw [if_neg d, if_neg d, ih hx']
theorem inA_mem {s : List Ar} {x b : Ar} (h : b ∈ inA s x) : b ∈ s ∨ b = x := by
  induction s with
  | nil => exact .inr (by simpa [inA] using h)
  | cons a s ih =>
    unfold inA at h
    by_cases c : x.id < a.id
    · rw [if_pos c] at h
      rcases List.mem_cons.1 h with h | h
      · exact .inr h
      · exact .inl h
    · rw [if_neg c] at h
      rcases List.mem_cons.1 h with h | h
      · exact .inl (h ▸ List.mem_cons_self ..)
      · rcases ih h with h | h
        · exact .inl (List.mem_cons_of_mem _ h)
        · exact .inr h
theorem inA_srt {s : List Ar} {x : Ar} (hs : s.Pairwise (fun a b => a.id < b.id)) (hx : ∀ a ∈ s, a.id ≠ x.id) : (inA s x).Pairwise (fun a b => a.id < b.id) := by
  induction s with
  | nil => exact List.pairwise_singleton _ _
  | cons a s ih =>
    have hs0 := hs
    rw [List.pairwise_cons] at hs
    unfold inA
    by_cases c : x.id < a.id
    · rw [if_pos c, List.pairwise_cons]
      refine ⟨fun b hb => ?_, hs0⟩
      rcases List.mem_cons.1 hb with rfl | hb
      · exact c
      · have := hs.1 b hb; omega
    · rw [if_neg c, List.pairwise_cons]
      refine ⟨fun b hb => ?_, ih hs.2 (fun b hb => hx b (List.mem_cons_of_mem _ hb))⟩
      rcases inA_mem hb with hb | hb
      · exact hs.1 b hb
      · have := hx a (List.mem_cons_self ..)
        rw [hb]; omega
theorem fnd_in {s : List Ar} {x : Ar} (hx : ∀ a ∈ s, a.id ≠ x.id) (j : Int) : fnd (inA s x) j = if j = x.id then x.text else fnd s j := by
  induction s with
  | nil =>
    unfold inA fnd fnd
    by_cases d : j = x.id
    · rw [if_pos d, if_pos d.symm]
    · rw [if_neg (by omega), if_neg d]
  | cons a s ih =>
    unfold inA
    by_cases c : x.id < a.id
    · rw [if_pos c]
      conv => lhs; unfold fnd
      by_cases d : j = x.id
      · rw [if_pos d, if_pos d.symm]
      · rw [if_neg (by omega), if_neg d]
    · rw [if_neg c]
      unfold fnd
      have := hx a (List.mem_cons_self ..)
      by_cases d : a.id = j
      · rw [if_pos d, if_pos d, if_neg (by omega)]
      · rw [if_neg d, if_neg d, ih (fun b hb => hx b (List.mem_cons_of_mem _ hb))]
def app1 (s : List Ar) (e : Ed) : List Ar := if e.kind = 2 then rmA s e.id else if e.kind = 3 then stA s e.id ⟨e.id, e.new⟩ else inA s ⟨e.id, e.new⟩
def apps (s : List Ar) (p : List Ed) : List Ar := p.foldl app1 s
def Fit (s : List Ar) (p : List Ed) : Prop := ∀ e ∈ p, fnd s e.id = e.old
theorem app1_ok {s : List Ar} (hs : SOk s) {e : Ed} (he : edB e = true) (hr : 1 ≤ e.id ∧ e.id ≤ 99) (hf : fnd s e.id = e.old) : SOk (app1 s e) ∧ ∀ j, fnd (app1 s e) j = if j = e.id then e.new else fnd s j := by
  unfold app1
  rcases edB_cases he with ⟨h0, h1, h2⟩ | ⟨h0, h1, h2⟩ | ⟨h0, h1, h2, h3⟩
  · rw [if_neg (by omega), if_neg (by omega)]
    have hx : ∀ a ∈ s, a.id ≠ e.id := by
      intro a ha c
      have := fnd_mem hs.srt ha
      rw [c, hf, h1] at this
      exact senB_ne (hs.txt a ha) this.symm
    refine ⟨⟨inA_srt hs.srt hx, fun a ha => ?_, fun a ha => ?_⟩, fnd_in hx⟩
    · rcases inA_mem ha with ha | rfl
      · exact hs.txt a ha
      · exact h2
    · rcases inA_mem ha with ha | rfl
      · exact hs.rng a ha
      · exact hr
  · rw [if_pos h0]
    refine ⟨⟨hs.srt.sublist (rmA_sub _ _), fun a ha => hs.txt a ((rmA_sub _ _).mem ha), fun a ha => hs.rng a ((rmA_sub _ _).mem ha)⟩, fun j => ?_⟩
    rw [fnd_rm hs.srt, h2]
  · rw [if_neg (by omega), if_pos h0]
    have hx : ∃ a ∈ s, a.id = e.id := by
      obtain ⟨a, ha, e1, _⟩ := fnd_some (s := s) (id := e.id) (by rw [hf]; exact senB_ne h1)
      exact ⟨a, ha, e1⟩
    refine ⟨⟨stA_srt (x := ⟨e.id, e.new⟩) hs.srt, fun a ha => ?_, fun a ha => ?_⟩, fnd_st (x := ⟨e.id, e.new⟩) hx⟩
    · rcases stA_mem ha with ha | rfl
      · exact hs.txt a ha
      · exact h2
    · rcases stA_mem ha with ha | rfl
      · exact hs.rng a ha
      · exact hr
def nw (p : List Ed) (s : List Ar) (id : Int) : ByteArray := match edo p id with
  | some e => e.new
  | none => fnd s id
theorem nw_yes {p : List Ed} {s : List Ar} {id : Int} {e : Ed} (h : edo p id = some e) : nw p s id = e.new := by unfold nw; rw [h]
theorem nw_no {p : List Ed} {s : List Ar} {id : Int} (h : edo p id = none) : nw p s id = fnd s id := by unfold nw; rw [h]
theorem apps_ok {p : List Ed} : ∀ {s : List Ar}, SOk s → POk p → Fit s p → SOk (apps s p) ∧ ∀ j, fnd (apps s p) j = nw p s j := by
  induction p with
  | nil => intro s hs _ _; exact ⟨hs, fun j => rfl⟩
  | cons e p ih =>
    intro s hs hp hf
    have hsrt := hp.srt
    rw [List.pairwise_cons] at hsrt
    obtain ⟨h1, h2⟩ := app1_ok hs (hp.ed e (List.mem_cons_self ..)) (hp.rng e (List.mem_cons_self ..)) (hf e (List.mem_cons_self ..))
    obtain ⟨h3, h4⟩ := ih h1 (hp.sub (List.sublist_cons_self e p)) (fun x hx => by
      rw [h2, if_neg (by have := hsrt.1 x hx; omega)]
      exact hf x (List.mem_cons_of_mem _ hx))
    refine ⟨h3, fun j => ?_⟩
    show fnd (apps (app1 s e) p) j = _
    rw [h4]
    unfold nw
    conv => rhs; unfold edo
    by_cases c : e.id = j
    · rw [if_pos c, edo_none (fun x hx => by have := hsrt.1 x hx; omega)]
      show fnd (app1 s e) j = e.new
      rw [h2, if_pos c.symm]
    · rw [if_neg c]
      cases edo p j with
      | none => show fnd (app1 s e) j = fnd s j; rw [h2, if_neg (by omega)]
      | some x => rfl
/-! ### made for the numbers one after another -/
def Gs (f : Nat → List Ed) (n : Nat) : List Ed := (List.range n).flatMap f
theorem Gs_succ (f : Nat → List Ed) (n : Nat) : Gs f (n + 1) = Gs f n ++ f n := by
  unfold Gs
  rw [List.range_succ, List.flatMap_append]
  simp
def One (f : Nat → List Ed) : Prop := ∀ k, f k = [] ∨ ∃ e, f k = [e] ∧ e.id = (k : Int) + 1
theorem Gs_mem {f : Nat → List Ed} (h : One f) : ∀ n e, e ∈ Gs f n → ∃ k, k < n ∧ e.id = (k : Int) + 1 ∧ f k = [e] := by
  intro n
  induction n with
  | zero => intro e he; simp [Gs] at he
  | succ n ih =>
    intro e he
    rw [Gs_succ] at he
    rcases List.mem_append.1 he with he | he
    · obtain ⟨k, hk, r⟩ := ih e he
      exact ⟨k, by omega, r⟩
    · rcases h n with h0 | ⟨x, h0, h1⟩
      · rw [h0] at he; cases he
      · rw [h0] at he
        simp at he
        subst he
        exact ⟨n, by omega, h1, h0⟩
theorem Gs_srt {f : Nat → List Ed} (h : One f) : ∀ n, (Gs f n).Pairwise (fun a b => a.id < b.id) := by
  intro n
  induction n with
  | zero => simp [Gs]
  | succ n ih =>
    rw [Gs_succ, List.pairwise_append]
    refine ⟨ih, ?_, fun a ha b hb => ?_⟩
    · rcases h n with h0 | ⟨x, h0, _⟩ <;> rw [h0]
      · exact List.Pairwise.nil
      · exact List.pairwise_singleton _ _
    · obtain ⟨k, hk, h1, _⟩ := Gs_mem h n a ha
      rcases h n with h0 | ⟨x, h0, h2⟩
      · rw [h0] at hb; cases hb
      · rw [h0] at hb
        simp at hb
        subst hb
        omega
theorem Gs_edo {f : Nat → List Ed} (h : One f) {n k : Nat} (hk : k < n) : edo (Gs f n) ((k : Int) + 1) = (f k).head? := by
  rcases h k with h0 | ⟨x, h0, h1⟩
  · rw [h0]
    refine edo_none fun e he c => ?_
    obtain ⟨i, hi, h2, h3⟩ := Gs_mem h n e he
    have : i = k := by omega
    subst this
    rw [h0] at h3
    cases h3
  · rw [h0, ← h1]
    refine edo_mem (Gs_srt h n) ?_
    unfold Gs
    exact List.mem_flatMap.2 ⟨k, List.mem_range.2 hk, by rw [h0]; simp⟩
theorem Gs_out {f : Nat → List Ed} (h : One f) {n : Nat} {id : Int} (hi : ¬ (1 ≤ id ∧ id ≤ n)) : edo (Gs f n) id = none := by
  refine edo_none fun e he c => ?_
  obtain ⟨i, h1, h2, _⟩ := Gs_mem h n e he
  omega
theorem edL_one (g : Nat → ByteArray) (g' : Nat → ByteArray) : One fun k => edL ((k : Int) + 1) (g k) (g' k) := by
  intro k
  show edL _ _ _ = [] ∨ ∃ e, edL _ _ _ = [e] ∧ _
  unfold edL
  by_cases c : g k = g' k
  · rw [if_pos c]; exact .inl rfl
  · rw [if_neg c]; exact .inr ⟨_, rfl, stp_id _ _ _⟩
def diffF (a b : List Ar) (k : Nat) : List Ed := edL ((k : Int) + 1) (fnd a ((k : Int) + 1)) (fnd b ((k : Int) + 1))
def invF (p : List Ed) (k : Nat) : List Ed := match edo p ((k : Int) + 1) with
  | some e => edL ((k : Int) + 1) e.new e.old
  | none => []
def cmpF (p q : List Ed) (k : Nat) : List Ed := match edo p ((k : Int) + 1), edo q ((k : Int) + 1) with
  | some a, some b => edL ((k : Int) + 1) a.old b.new
  | some a, none => [a]
  | none, some b => [b]
  | none, none => []
theorem diff_one (a b : List Ar) : One (diffF a b) := edL_one (fun k => fnd a ((k : Int) + 1)) (fun k => fnd b ((k : Int) + 1))
theorem cmp_one (p q : List Ed) : One (cmpF p q) := by
  intro k
  unfold cmpF
  cases h1 : edo p ((k : Int) + 1) with
  | none =>
    cases h2 : edo q ((k : Int) + 1) with
    | none => exact .inl rfl
    | some b => exact .inr ⟨b, rfl, (edo_some h2).2⟩
  | some a =>
    cases h2 : edo q ((k : Int) + 1) with
    | none => exact .inr ⟨a, rfl, (edo_some h1).2⟩
    | some b =>
      show edL _ _ _ = [] ∨ ∃ e, edL _ _ _ = [e] ∧ _
      unfold edL
      by_cases c : a.old = b.new
      · rw [if_pos c]; exact .inl rfl
      · rw [if_neg c]; exact .inr ⟨_, rfl, stp_id _ _ _⟩
theorem fnd_rng {s : List Ar} (hs : SOk s) {id : Int} (h : ¬ (1 ≤ id ∧ id ≤ 99)) : fnd s id = ByteArray.empty := fnd_none fun a ha c => h (c ▸ hs.rng a ha)
theorem edo_rng {p : List Ed} (hp : POk p) {id : Int} (h : ¬ (1 ≤ id ∧ id ≤ 99)) : edo p id = none := edo_none fun a ha c => h (c ▸ hp.rng a ha)
theorem num_of {id : Int} (h : 1 ≤ id ∧ id ≤ 99) : ∃ k : Nat, k < 99 ∧ id = (k : Int) + 1 := ⟨(id - 1).toNat, by omega, by omega⟩
/-- A patch is the difference of the statutes before and behind it. -/
theorem diff_apps {s : List Ar} {p : List Ed} (hs : SOk s) (hp : POk p) (hf : Fit s p) : Gs (diffF s (apps s p)) 99 = p := by
  refine pt_ext (Gs_srt (diff_one _ _) _) hp.srt fun id => ?_
  by_cases h : 1 ≤ id ∧ id ≤ 99
  · obtain ⟨k, hk, rfl⟩ := num_of h
    rw [Gs_edo (diff_one _ _) hk]
    unfold diffF
    rw [(apps_ok hs hp hf).2]
    cases he : edo p ((k : Int) + 1) with
    | none => rw [nw_no he]; unfold edL; rw [if_pos rfl]; rfl
    | some e =>
      obtain ⟨hm, hi⟩ := edo_some he
      rw [nw_yes he, ← hi, hf e hm, edL_self (hp.ed e hm)]; rfl
  · rw [edo_rng hp h, Gs_out (diff_one _ _) (by omega)]
/-! ### the inverse -/
def invL (p : List Ed) : List Ed := p.flatMap fun e => edL e.id e.new e.old
theorem invL_cons (e : Ed) (p : List Ed) : invL (e :: p) = edL e.id e.new e.old ++ invL p := rfl
theorem edL_rev {e : Ed} (h : edB e = true) : edL e.id e.new e.old = [stp e.id e.new e.old] := by
  unfold edL
  rw [if_neg (fun c => (ed_txt h).2.2 c.symm)]
theorem invL_map {p : List Ed} (h : ∀ e ∈ p, edB e = true) : invL p = p.map fun e => stp e.id e.new e.old := by
  induction p with
  | nil => rfl
  | cons e p ih =>
    rw [invL_cons, edL_rev (h e (List.mem_cons_self ..)), ih (fun x hx => h x (List.mem_cons_of_mem _ hx))]
    rfl
theorem inv_ok {p : List Ed} (hp : POk p) : POk (invL p) := by
  rw [invL_map hp.ed]
  refine ⟨?_, fun e he => ?_, fun e he => ?_⟩
  · rw [List.pairwise_map]
    exact hp.srt.imp fun h => by rw [stp_id, stp_id]; exact h
  · obtain ⟨x, hx, rfl⟩ := List.mem_map.1 he
    have := ed_txt (hp.ed x hx)
    exact stp_ok this.2.1 this.1 this.2.2.symm
  · obtain ⟨x, hx, rfl⟩ := List.mem_map.1 he
    rw [stp_id]
    exact hp.rng x hx
theorem inv_len {p : List Ed} (hp : POk p) : (invL p).length = p.length := by rw [invL_map hp.ed]; simp
theorem inv_edo {p : List Ed} (hp : POk p) (id : Int) : edo (invL p) id = (edo p id).map fun e => stp e.id e.new e.old := by
  cases he : edo p id with
  | none =>
    rw [Option.map_none]
    refine edo_none fun x hx c => ?_
    rw [invL_map hp.ed] at hx
    obtain ⟨y, hy, rfl⟩ := List.mem_map.1 hx
    rw [stp_id] at c
    rw [← c, edo_mem hp.srt hy] at he
    cases he
  | some e =>
    obtain ⟨hm, hi⟩ := edo_some he
    rw [Option.map_some, ← hi]
    have h1 : stp e.id e.new e.old ∈ invL p := by rw [invL_map hp.ed]; exact List.mem_map.2 ⟨e, hm, rfl⟩
    have h2 := edo_mem (inv_ok hp).srt h1
    rw [stp_id] at h2
    exact h2
theorem inv_inv {p : List Ed} (hp : POk p) : invL (invL p) = p := by
  rw [invL_map (inv_ok hp).ed, invL_map hp.ed, List.map_map]
  conv => rhs; rw [← List.map_id p]
  apply List.map_congr_left
  intro e he
  show stp (stp e.id e.new e.old).id (stp e.id e.new e.old).new (stp e.id e.new e.old).old = e
  rw [stp_id, stp_new, stp_old, stp_self (hp.ed e he)]
theorem inv_fit {s : List Ar} {p : List Ed} (hs : SOk s) (hp : POk p) (hf : Fit s p) : Fit (apps s p) (invL p) := by
  intro x hx
  rw [invL_map hp.ed] at hx
  obtain ⟨e, he, rfl⟩ := List.mem_map.1 hx
  rw [stp_id, stp_old, (apps_ok hs hp hf).2, nw_yes (edo_mem hp.srt he)]
/-- The inverse leads back. -/
theorem inv_back {s : List Ar} {p : List Ed} (hs : SOk s) (hp : POk p) (hf : Fit s p) : apps (apps s p) (invL p) = s := by
  obtain ⟨h1, h2⟩ := apps_ok hs hp hf
  obtain ⟨h3, h4⟩ := apps_ok h1 (inv_ok hp) (inv_fit hs hp hf)
  refine st_ext h3 hs fun id => ?_
  rw [h4]
  cases he : edo p id with
  | none => rw [nw_no (by rw [inv_edo hp, he]; rfl), h2, nw_no he]
  | some e =>
    obtain ⟨hm, hi⟩ := edo_some he
    rw [nw_yes (e := stp e.id e.new e.old) (by rw [inv_edo hp, he]; rfl), stp_new, ← hf e hm, hi]
theorem cmp_inv {p : List Ed} (hp : POk p) : Gs (cmpF p (invL p)) 99 = [] := by
  refine pt_ext (q := []) (Gs_srt (cmp_one _ _) _) List.Pairwise.nil fun id => ?_
  by_cases h : 1 ≤ id ∧ id ≤ 99
  · obtain ⟨k, hk, rfl⟩ := num_of h
    rw [Gs_edo (cmp_one _ _) hk]
    unfold cmpF
    rw [inv_edo hp]
    cases he : edo p ((k : Int) + 1) with
    | none => rfl
    | some e =>
      show (edL _ e.old (stp e.id e.new e.old).new).head? = _
      rw [stp_new]
      unfold edL
      rw [if_pos rfl]
      rfl
  · rw [Gs_out (cmp_one _ _) (by omega)]; rfl
theorem apps_ne {s : List Ar} {p : List Ed} (hs : SOk s) (hp : POk p) (hf : Fit s p) (hne : p ≠ []) : s ≠ apps s p := by
  intro e
  cases p with
  | nil => exact hne rfl
  | cons x p =>
    have h1 := (apps_ok hs hp hf).2 x.id
    rw [← e, nw_yes (edo_mem hp.srt (List.mem_cons_self ..)), hf x (List.mem_cons_self ..)] at h1
    exact (ed_txt (hp.ed x (List.mem_cons_self ..))).2.2 h1
/-! ### the composition -/
theorem fit_meet {s : List Ar} {p q : List Ed} (hs : SOk s) (hp : POk p) (hf : Fit s p) (hg : Fit (apps s p) q) {id : Int} {a b : Ed} (h1 : edo p id = some a) (h2 : edo q id = some b) : a.new = b.old := by
  obtain ⟨hm, hi⟩ := edo_some h2
  have := hg b hm
  rw [hi, (apps_ok hs hp hf).2, nw_yes h1] at this
  exact this
theorem cmp_ok {s : List Ar} {p q : List Ed} (hs : SOk s) (hp : POk p) (hq : POk q) : POk (Gs (cmpF p q) 99) := by
  refine ⟨Gs_srt (cmp_one _ _) _, fun e he => ?_, fun e he => ?_⟩
  · obtain ⟨k, hk, _, hf⟩ := Gs_mem (cmp_one _ _) 99 e he
    unfold cmpF at hf
    cases h1 : edo p ((k : Int) + 1) with
    | none =>
      cases h2 : edo q ((k : Int) + 1) with
      | none => rw [h1, h2] at hf; cases hf
      | some b =>
        rw [h1, h2] at hf
        injection hf with hf
        exact hf ▸ hq.ed b (edo_some h2).1
    | some a =>
      cases h2 : edo q ((k : Int) + 1) with
      | none =>
        rw [h1, h2] at hf
        injection hf with hf
        exact hf ▸ hp.ed a (edo_some h1).1
      | some b =>
        rw [h1, h2] at hf
        have hf : edL ((k : Int) + 1) a.old b.new = [e] := hf
        unfold edL at hf
        split at hf
        · cases hf
        · rename_i c
          injection hf with hf
          rw [← hf]
          exact stp_ok (ed_txt (hp.ed a (edo_some h1).1)).1 (ed_txt (hq.ed b (edo_some h2).1)).2.1 c
  · obtain ⟨k, hk, h1, _⟩ := Gs_mem (cmp_one _ _) 99 e he
    omega
/-- The composition as a difference. -/
theorem cmp_diff {s : List Ar} {p q : List Ed} (hs : SOk s) (hp : POk p) (hq : POk q) (hf : Fit s p) (hg : Fit (apps s p) q) : Gs (diffF s (apps (apps s p) q)) 99 = Gs (cmpF p q) 99 := by
  obtain ⟨h1, h2⟩ := apps_ok hs hp hf
  obtain ⟨h3, h4⟩ := apps_ok h1 hq hg
  refine pt_ext (Gs_srt (diff_one _ _) _) (Gs_srt (cmp_one _ _) _) fun id => ?_
  by_cases h : 1 ≤ id ∧ id ≤ 99
  · obtain ⟨k, hk, rfl⟩ := num_of h
    rw [Gs_edo (diff_one _ _) hk, Gs_edo (cmp_one _ _) hk]
    unfold diffF cmpF
    rw [h4]
    unfold nw
    rw [h2]
    unfold nw
    cases k1 : edo p ((k : Int) + 1) with
    | none =>
      cases k2 : edo q ((k : Int) + 1) with
      | none => show (edL _ _ _).head? = none; unfold edL; rw [if_pos rfl]; rfl
      | some b =>
        obtain ⟨hm, hi⟩ := edo_some k2
        have := hg b hm
        rw [hi, h2, nw_no k1] at this
        show (edL _ (fnd s _) b.new).head? = some b
        rw [this, ← hi, edL_self (hq.ed b hm)]
        rfl
    | some a =>
      obtain ⟨hm, hi⟩ := edo_some k1
      have ho := hf a hm
      rw [hi] at ho
      cases k2 : edo q ((k : Int) + 1) with
      | none =>
        show (edL _ (fnd s _) a.new).head? = some a
        rw [ho, ← hi, edL_self (hp.ed a hm)]
        rfl
      | some b =>
        show (edL _ (fnd s _) b.new).head? = (edL _ a.old b.new).head?
        rw [ho]
  · rw [Gs_out (diff_one _ _) (by omega), Gs_out (cmp_one _ _) (by omega)]
theorem cmp_fit {s : List Ar} {p q : List Ed} (hs : SOk s) (hp : POk p) (hq : POk q) (hf : Fit s p) (hg : Fit (apps s p) q) : Fit s (Gs (cmpF p q) 99) := by
  obtain ⟨h1, h2⟩ := apps_ok hs hp hf
  intro e he
  obtain ⟨k, hk, hi, hfk⟩ := Gs_mem (cmp_one _ _) 99 e he
  unfold cmpF at hfk
  rw [hi]
  cases k1 : edo p ((k : Int) + 1) with
  | none =>
    cases k2 : edo q ((k : Int) + 1) with
    | none => rw [k1, k2] at hfk; cases hfk
    | some b =>
      rw [k1, k2] at hfk
      injection hfk with hfk
      obtain ⟨hm, hi2⟩ := edo_some k2
      have := hg b hm
      rw [hi2, h2, nw_no k1] at this
      rw [this, hfk]
  | some a =>
    obtain ⟨hm, hi2⟩ := edo_some k1
    have ho := hf a hm
    rw [hi2] at ho
    cases k2 : edo q ((k : Int) + 1) with
    | none =>
      rw [k1, k2] at hfk
      injection hfk with hfk
      rw [ho, hfk]
    | some b =>
      rw [k1, k2] at hfk
      have hfk : edL ((k : Int) + 1) a.old b.new = [e] := hfk
      unfold edL at hfk
      split at hfk
      · cases hfk
      · injection hfk with hfk
        rw [ho, ← hfk, stp_old]
/-- The composition does what both do one after another. -/
theorem cmp_apps {s : List Ar} {p q : List Ed} (hs : SOk s) (hp : POk p) (hq : POk q) (hf : Fit s p) (hg : Fit (apps s p) q) : apps s (Gs (cmpF p q) 99) = apps (apps s p) q := by
  obtain ⟨h1, h2⟩ := apps_ok hs hp hf
  obtain ⟨h3, h4⟩ := apps_ok h1 hq hg
  obtain ⟨h5, h6⟩ := apps_ok hs (cmp_ok (s := s) hs hp hq) (cmp_fit hs hp hq hf hg)
  refine st_ext h5 h3 fun id => ?_
  rw [h6, h4]
  by_cases h : 1 ≤ id ∧ id ≤ 99
  · obtain ⟨k, hk, rfl⟩ := num_of h
    unfold nw
    rw [Gs_edo (cmp_one _ _) hk, h2]
    unfold cmpF nw
    cases k1 : edo p ((k : Int) + 1) with
    | none =>
      cases k2 : edo q ((k : Int) + 1) with
      | none => rfl
      | some b => rfl
    | some a =>
      obtain ⟨hm, hi⟩ := edo_some k1
      have ho := hf a hm
      rw [hi] at ho
      cases k2 : edo q ((k : Int) + 1) with
      | none => rfl
      | some b =>
        show (match (edL _ a.old b.new).head? with | some e => e.new | none => fnd s _) = b.new
        unfold edL
        by_cases c : a.old = b.new
        · rw [if_pos c]
          show fnd s _ = _
          rw [ho, c]
        · rw [if_neg c]
          show (stp _ _ _).new = _
          rw [stp_new]
  · rw [nw_no (Gs_out (cmp_one _ _) (by omega)), nw_no (edo_rng hq h), h2, nw_no (edo_rng hp h)]
theorem Gs_short {f : Nat → List Ed} (h : One f) {m : Nat} (hm : ∀ k, m ≤ k → f k = []) : ∀ n, (Gs f n).length ≤ m := by
  intro n
  have key : (Gs f n).length ≤ min n m := by
    induction n with
    | zero => simp [Gs]
    | succ n ih =>
      rw [Gs_succ, List.length_append]
      rcases Nat.lt_or_ge n m with c | c
      · have : (f n).length ≤ 1 := by rcases h n with h0 | ⟨e, h0, _⟩ <;> rw [h0] <;> simp
        omega
      · rw [hm n c]
        simp
        omega
  omega
/-! ### how long -/
theorem app1_len (s : List Ar) (e : Ed) (hk : e.kind = 1 ∨ e.kind = 2 ∨ e.kind = 3) : (app1 s e).length ≤ s.length + if e.kind = 1 then 1 else 0 := by
  unfold app1
  rcases hk with h | h | h
  · rw [if_neg (by omega), if_neg (by omega), if_pos h, ← ins_ix]
    simp
    have := List.findIdx_le_length (p := fun a : Ar => decide (e.id < a.id)) (xs := s)
    unfold ixG
    omega
  · rw [if_pos h]
    have := (rmA_sub s e.id).length_le
    omega
  · rw [if_neg (by omega), if_pos h, ← set_ix, List.length_set]
    omega
def b10f (t : List Ar) : Nat → List Ed → List Ed
  | _, [] => []
  | n, e :: p => if fnd t e.id ≠ e.old ∨ (e.kind = 1 ∧ 8 ≤ n) then b10f t n p else e :: b10f t (if e.kind = 1 then n + 1 else n) p
theorem b10f_sub (t : List Ar) : ∀ (p : List Ed) (n : Nat), (b10f t n p).Sublist p
  | [], n => List.Sublist.refl _
  | e :: p, n => by
    unfold b10f
    split
    · exact (b10f_sub t p n).cons e
    · exact (b10f_sub t p _).cons_cons e
theorem b10f_fit (t : List Ar) : ∀ (p : List Ed) (n : Nat), Fit t (b10f t n p)
  | [], n => by intro e he; simp [b10f] at he
  | e :: p, n => by
    unfold b10f
    split
    · exact b10f_fit t p n
    · rename_i c
      intro x hx
      rcases List.mem_cons.1 hx with rfl | hx
      · exact Classical.byContradiction fun h => c (.inl h)
      · exact b10f_fit t p _ x hx
theorem b10f_len (t : List Ar) : ∀ (p : List Ed) (n : Nat) (s : List Ar), (∀ e ∈ p, edB e = true) → s.length ≤ n → n ≤ 8 → (apps s (b10f t n p)).length ≤ 8
  | [], n, s, _, h1, h2 => by
    show s.length ≤ 8
    omega
  | e :: p, n, s, h, h1, h2 => by
    unfold b10f
    split
    · exact b10f_len t p n s (fun x hx => h x (List.mem_cons_of_mem _ hx)) h1 h2
    · rename_i c
      have hl := app1_len s e (by rcases edB_cases (h e (List.mem_cons_self ..)) with ⟨k, _⟩ | ⟨k, _⟩ | ⟨k, _⟩ <;> simp [k])
      refine b10f_len t p _ (app1 s e) (fun x hx => h x (List.mem_cons_of_mem _ hx)) ?_ ?_
      · split at hl <;> split <;> omega
      · split
        · rename_i k
          have : ¬ 8 ≤ n := fun h8 => c (.inr ⟨k, h8⟩)
          omega
        · exact h2
end Go.Proofs.Ytcoladhppbknnaa
