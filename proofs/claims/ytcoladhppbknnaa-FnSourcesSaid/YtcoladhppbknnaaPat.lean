/- Edits and patches: the program's tests and the reference's. -/
import Derived.Test.YtcoladhppbknnaaSen2
import Derived.Test.YtcoladhppbknnaaCells
namespace Go.Proofs.Ytcoladhppbknnaa
set_option linter.unusedVariables false
set_option linter.unusedSimpArgs false
set_option maxRecDepth 100000
open Go.RowKit Go.Deep
theorem quiet_dr {P : Program} {f : FuncId} {args : Array Value} {w : World} {n : Nat} {v : Value}
    (h : Calls P f args (w.drewN n) fun e w' => e = .returned v ∧ ∃ m, w' = (w.drewN n).drewN m) : Calls P f args (w.drewN n) fun e w'' => e = .returned v ∧ ∃ m, w'' = w.drewN m :=
  h.mono fun _ _ ⟨he, m, hm⟩ => ⟨he, n + m, by rw [hm, World.drewN_drewN]⟩
def edB (e : Ed) : Bool :=
  if e.kind = 1 then e.old.toList.isEmpty && senB e.new
  else if e.kind = 2 then senB e.old && e.new.toList.isEmpty
  else if e.kind = 3 then senB e.old && senB e.new && !(e.old.toList == e.new.toList) else false
def dEd : Ed := ⟨0, 0, ByteArray.empty, ByteArray.empty⟩
def patK (es : List Ed) (k : Nat) : Bool := inR (es.getD k dEd).id 1 99 && edB (es.getD k dEd) && (decide (k = 0) || decide ((es.getD (k - 1) dEd).id < (es.getD k dEd).id))
def patB (es : List Ed) : Bool := (List.range es.length).all (patK es) && decide (es.length ≤ 16)
theorem isEdit_any (e : Ed) (ok : EdOk e) (w : World) : Calls Try.prog 109 #[.agg #[.int .i64 e.kind, .int .i64 e.id, .string e.old, .string e.new]] w fun x w' => x = .returned (.bool (inR e.id 1 99 && edB e)) ∧ Below w.heap.size w w' := by
  have so := ok.old
  have sn := ok.new
  have ba := bel_alloc w (.cells #[.int .i64 e.kind, .int .i64 e.id, .string e.old, .string e.new] 74)
  have C := Cs.new w [.int .i64 e.kind, .int .i64 e.id, .string e.old, .string e.new] 74
  have y0 := C.cell 0 rfl
  have y1 := C.cell 1 rfl
  have y2 := C.cell 2 rfl
  have y3 := C.cell 3 rfl
  obtain ⟨kd, id, old, new⟩ := e
  simp only at so sn ba y0 y1 y2 y3
  clear C ok
  go_enter Try.func109, Try.ntmps109
  go_wp2_with fail
  refine (within_any id 1 99 _).mono ?_
  rintro x w1 ⟨rfl, rfl⟩
  cases hin : inR id 1 99
  · have R : Hid ((inR id 1 99 && edB ⟨kd, id, old, new⟩) = false) := by show _ = _; rw [hin]; rfl
    go_wp2_with fail
    go_ret
    exact ⟨by rw [R.out]; rfl, ba⟩
  have R : Hid ((inR id 1 99 && edB ⟨kd, id, old, new⟩) = edB ⟨kd, id, old, new⟩) := by show _ = _; rw [hin]; rfl
  clear hin
  by_cases k1 : kd = 1
  · subst k1
    have R := Lib.hid (show (inR id 1 99 && edB ⟨1, id, old, new⟩) = (old.toList.isEmpty && senB new) from R.out)
    cases he : old.toList.isEmpty
    · rw [he] at R
      go_wp2_with fail
      go_ret
      exact ⟨by rw [R.out]; rfl, ba⟩
    · rw [he] at R
      go_wp2_with fail
      refine (isSentence_any new _ sn).mono ?_
      rintro x w1 ⟨rfl, rfl⟩
      go_wp2_with fail
      go_ret
      exact ⟨by rw [R.out]; rfl, ba⟩
  by_cases k2 : kd = 2
  · subst k2
    have R := Lib.hid (show (inR id 1 99 && edB ⟨2, id, old, new⟩) = (senB old && new.toList.isEmpty) from R.out)
    clear k1
    go_wp2_with fail
    refine (isSentence_any old _ so).mono ?_
    rintro x w1 ⟨rfl, rfl⟩
    cases ho : senB old
    · rw [ho] at R
      go_wp2_with fail
      go_ret
      exact ⟨by rw [R.out]; rfl, ba⟩
    · rw [ho] at R
      go_wp2_with fail
      go_ret
      exact ⟨by rw [R.out]; rfl, ba⟩
  by_cases k3 : kd = 3
  · subst k3
    have R := Lib.hid (show (inR id 1 99 && edB ⟨3, id, old, new⟩) = (senB old && senB new && !(old.toList == new.toList)) from R.out)
    clear k1 k2
    go_wp2_with fail
    refine (isSentence_any old _ so).mono ?_
    rintro x w1 ⟨rfl, rfl⟩
    cases ho : senB old
    · rw [ho] at R
      go_wp2_with fail
      go_ret
      exact ⟨by rw [R.out]; rfl, ba⟩
    · rw [ho] at R
      go_wp2_with fail
      refine (isSentence_any new _ sn).mono ?_
      rintro x w1 ⟨rfl, rfl⟩
      cases hn : senB new
      · rw [hn] at R
        go_wp2_with fail
        go_ret
        exact ⟨by rw [R.out]; rfl, ba⟩
      · rw [hn] at R
        go_wp2_with fail
        go_ret
        exact ⟨by rw [R.out]; rfl, ba⟩
  have R := Lib.hid (show (inR id 1 99 && edB ⟨kd, id, old, new⟩) = false by rw [R.out]; unfold edB; rw [if_neg k1, if_neg k2, if_neg k3])
  have d1 : (kd == 1) = false := by simpa using k1
  have d2 : (kd == 2) = false := by simpa using k2
  have d3 : (kd == 3) = false := by simpa using k3
  clear k1 k2 k3
  go_wp2_with fail
  go_ret
  exact ⟨by rw [R.out]; rfl, ba⟩
theorem l07Sentence_v {s : ByteArray} {v : Bool} (h : senB s = v) (hs : s.size ≤ 9223372036854775807) (w : World) : Calls Try.prog 97 #[.string s] w fun e w' => e = .returned (.bool v) ∧ w = w' := by subst h; exact l07Sentence_any s w hs
set_option maxHeartbeats 1000000 in
theorem l07Edit_any (e : Ed) (ok : EdOk e) (b off : Nat) (w : World) (y0 : w.cell? ⟨b, off, none⟩ = some (.int .i64 e.kind)) (y2 : w.cell? ⟨b, off + 2, none⟩ = some (.string e.old)) (y3 : w.cell? ⟨b, off + 3, none⟩ = some (.string e.new)) :
    Calls Try.prog 121 #[.pointer (some ⟨b, off, none⟩)] w fun x w' => x = .returned (.bool (edB e)) ∧ ∃ m, w' = w.drewN m := by
  have so := ok.old
  have sn := ok.new
  obtain ⟨kd, id, old, new⟩ := e
  simp only at so sn y0 y2 y3
  clear ok
  by_cases k1 : kd = 1
  · subst k1
    have R := Lib.hid (show edB ⟨1, id, old, new⟩ = (old.toList.isEmpty && senB new) from rfl)
    go_enter Try.func121, Try.ntmps121
    cases he : old.toList.isEmpty
    · rw [he] at R
      go_wp2_with fail
      go_ret
      exact ⟨by rw [R.out]; rfl, ⟨0, rfl⟩⟩
    · rw [he] at R
      go_wp2_with fail
      refine (l07Sentence_any new _ sn).mono ?_
      rintro x w1 ⟨rfl, rfl⟩
      go_wp2_with fail
      go_ret
      exact ⟨by rw [R.out]; rfl, ⟨0, rfl⟩⟩
  by_cases k2 : kd = 2
  · subst k2
    have R := Lib.hid (show edB ⟨2, id, old, new⟩ = (senB old && new.toList.isEmpty) from rfl)
    clear k1
    go_enter Try.func121, Try.ntmps121
    go_wp2_with fail
    refine (l07Sentence_any old _ so).mono ?_
    rintro x w1 ⟨rfl, rfl⟩
    cases ho : senB old
    · rw [ho] at R
      go_wp2_with fail
      go_ret
      exact ⟨by rw [R.out]; rfl, ⟨0, rfl⟩⟩
    · rw [ho] at R
      go_wp2_with fail
      go_ret
      exact ⟨by rw [R.out]; rfl, ⟨0, rfl⟩⟩
  by_cases k3 : kd = 3
  · subst k3
    have R := Lib.hid (show edB ⟨3, id, old, new⟩ = (senB old && senB new && !(old.toList == new.toList)) from rfl)
    clear k1 k2
    go_enter Try.func121, Try.ntmps121
    go_wp2_with fail
    cases ho : senB old
    · rw [ho] at R
      have W0 := Lib.hid ho
      clear ho
      go_quiet ((go_at_call 97; exact quiet_left (l07Sentence_v (v := _) (by first | exact W0.out | exact W0.out) (by first | exact so | exact sn) _)))
      go_wp2_with fail
      go_ret
      exact ⟨by rw [R.out]; rfl, ⟨_, rfl⟩⟩
    · rw [ho] at R
      have W0 := Lib.hid ho
      clear ho
      cases hn : senB new
      · rw [hn] at R
        have W1 := Lib.hid hn
        clear hn
        go_quiet ((go_at_call 97; exact quiet_left (l07Sentence_v (v := _) (by first | exact W0.out | exact W1.out) (by first | exact so | exact sn) _)))
        go_wp2_with fail
        go_ret
        exact ⟨by rw [R.out]; rfl, ⟨_, rfl⟩⟩
      · rw [hn] at R
        have W1 := Lib.hid hn
        clear hn
        go_quiet ((go_at_call 97; exact quiet_left (l07Sentence_v (v := _) (by first | exact W0.out | exact W1.out) (by first | exact so | exact sn) _)))
        go_wp2_with fail
        go_ret
        exact ⟨by rw [R.out]; rfl, ⟨_, rfl⟩⟩
  have R := Lib.hid (show edB ⟨kd, id, old, new⟩ = false by unfold edB; rw [if_neg k1, if_neg k2, if_neg k3])
  have d1 : (kd == 1) = false := by simpa using k1
  have d2 : (kd == 2) = false := by simpa using k2
  have d3 : (kd == 3) = false := by simpa using k3
  clear k1 k2 k3
  go_enter Try.func121, Try.ntmps121
  go_wp2_with fail
  go_ret
  exact ⟨by rw [R.out]; rfl, ⟨0, rfl⟩⟩
end Go.Proofs.Ytcoladhppbknnaa
