/- Edits and articles: read, or made by the call itself. -/
import Derived.Test.YtcoladhppbknnaaRec
import Derived.Test.YtcoladhppbknnaaInts
namespace Go.Proofs.Ytcoladhppbknnaa
set_option linter.unusedVariables false
open Go.RowKit
def I64 (x : Int) : Prop := -9223372036854775808 ≤ x ∧ x ≤ 9223372036854775807
theorem i64_wf {x : Int} (h : (Lit.int .i64 x).wf = true) : I64 x := bounds_i64 h
theorem oneStr (s : ByteArray) : (Value.string s).oneCell' = true := rfl
theorem oneInt (k : IntKind) (x : Int) : (Value.int k x).oneCell' = true := rfl
structure Ed where
  kind : Int
  id : Int
  old : ByteArray
  new : ByteArray
def Ed.vals (e : Ed) : List Value := [.int .i64 e.kind, .int .i64 e.id, .string e.old, .string e.new]
structure EdOk (e : Ed) : Prop where
  kind : I64 e.kind
  id : I64 e.id
  old : e.old.size ≤ 9223372036854775807
  new : e.new.size ≤ 9223372036854775807
structure Ar where
  id : Int
  text : ByteArray
def Ar.vals (a : Ar) : List Value := [.int .i64 a.id, .string a.text]
structure ArOk (a : Ar) : Prop where
  id : I64 a.id
  text : a.text.size ≤ 9223372036854775807
def Eds (w : World) (A : Option Addr) (n c : Nat) (es : List Ed) : Prop := Recs 4 w A n c (es.map Ed.vals) ∧ ∀ e ∈ es, EdOk e
def Ars (w : World) (A : Option Addr) (n c : Nat) (rs : List Ar) : Prop := Recs 2 w A n c (rs.map Ar.vals) ∧ ∀ a ∈ rs, ArOk a
section
variable {w w' : World} {A : Option Addr} {n c : Nat} {es : List Ed} {rs : List Ar}
theorem Eds.below (h : Eds w A n c es) (hb : Below w.heap.size w w') : Eds w' A n c es := ⟨h.1.below hb, h.2⟩
theorem Ars.below (h : Ars w A n c rs) (hb : Below w.heap.size w w') : Ars w' A n c rs := ⟨h.1.below hb, h.2⟩
theorem Eds.short (h : Eds w A n c es) : n ≤ 9223372036854775807 := h.1.short
theorem Ars.short (h : Ars w A n c rs) : n ≤ 9223372036854775807 := h.1.short
theorem Eds.len (h : Eds w A n c es) : es.length = n := by have := h.1.1; simpa using this
theorem Ars.len (h : Ars w A n c rs) : rs.length = n := by have := h.1.1; simpa using this
theorem Eds.at (h : Eds w A n c es) {j : Nat} (hj : j < n) :
    ∃ b off e, A = some ⟨b, off, none⟩ ∧ b < w.heap.size ∧ Hid (es[j]? = some e) ∧ EdOk e ∧ w.cell? ⟨b, off + j * 4, none⟩ = some (.int .i64 e.kind) ∧ w.cell? ⟨b, off + j * 4 + 1, none⟩ = some (.int .i64 e.id) ∧
      w.cell? ⟨b, off + j * 4 + 2, none⟩ = some (.string e.old) ∧ w.cell? ⟨b, off + j * 4 + 3, none⟩ = some (.string e.new) := by
  obtain ⟨b, off, r, hA, hb, hr, hc⟩ := h.1.at hj
  have hr' := hr.out
  rw [List.getElem?_map] at hr'
  obtain ⟨e, he, rfl⟩ := Option.map_eq_some_iff.1 hr'
  exact ⟨b, off, e, hA, hb, he, h.2 e (List.mem_of_getElem? he), hc 0 _ rfl, hc 1 _ rfl, hc 2 _ rfl, hc 3 _ rfl⟩
theorem Ars.at (h : Ars w A n c rs) {j : Nat} (hj : j < n) :
    ∃ b off e, A = some ⟨b, off, none⟩ ∧ b < w.heap.size ∧ Hid (rs[j]? = some e) ∧ ArOk e ∧ w.cell? ⟨b, off + j * 2, none⟩ = some (.int .i64 e.id) ∧ w.cell? ⟨b, off + j * 2 + 1, none⟩ = some (.string e.text) := by
  obtain ⟨b, off, r, hA, hb, hr, hc⟩ := h.1.at hj
  have hr' := hr.out
  rw [List.getElem?_map] at hr'
  obtain ⟨e, he, rfl⟩ := Option.map_eq_some_iff.1 hr'
  exact ⟨b, off, e, hA, hb, he, h.2 e (List.mem_of_getElem? he), hc 0 _ rfl, hc 1 _ rfl⟩
theorem eds_nil (w : World) : Eds w none 0 0 [] := ⟨recs_nil _ _, by simp⟩
theorem ars_nil (w : World) : Ars w none 0 0 [] := ⟨recs_nil _ _, by simp⟩
theorem ed_len (e : Ed) : e.vals.length = 4 := rfl
theorem ar_len (a : Ar) : a.vals.length = 2 := rfl
end
/-- A sentence's letters. -/
def chrB (c : UInt8) : Bool := (97 ≤ c && c ≤ 122) || (48 ≤ c && c ≤ 57) || c == 32
def sentB (s : ByteArray) : Bool := s.data.toList.all chrB && (decide (1 ≤ s.size) && decide (s.size ≤ 24) && !(s.data.toList.head? == some 32) && !(s.data.toList.getLast? == some 32))
end Go.Proofs.Ytcoladhppbknnaa
