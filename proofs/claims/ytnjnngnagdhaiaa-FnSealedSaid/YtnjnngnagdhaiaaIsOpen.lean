/- Is a count opened? The program and the model. -/
import Derived.Test.YtnjnngnagdhaiaaICnt
namespace Go.Proofs.Ytnjnngnagdhaiaa
set_option linter.unusedVariables false
set_option maxRecDepth 100000
open Go.RowKit
def countB (n : Int) : Bool := inR n 0 12000
theorem countB_true {n : Int} (h : countB n = true) : 0 ≤ n ∧ n ≤ 12000 := inR_true.1 h
def opK (qs : List Bal) (ws cs ks : List Int) (i : Nat) : Bool := countB (cs.getD i 0) && ((cntL qs ws 3).getD i 0 == sealO (cs.getD i 0) (ks.getD i 0))
def opTo (qs : List Bal) (ws cs ks : List Int) (k : Nat) : Bool := (List.range k).all (opK qs ws cs ks)
def openB (qs : List Bal) (ws cs ks : List Int) : Bool := castB qs ws && decide (cs.length = 3) && allB ks 3 expB && opTo qs ws cs ks 3
theorem opTo_succ (qs : List Bal) (ws cs ks : List Int) (k : Nat) : opTo qs ws cs ks (k + 1) = (opTo qs ws cs ks k && opK qs ws cs ks k) := by simp [opTo, List.range_succ]
theorem opTo_no {qs : List Bal} {ws cs ks : List Int} {k : Nat} (hk : k < 3) (h : opK qs ws cs ks k = false) : openB qs ws cs ks = false := by
  have : opTo qs ws cs ks 3 = false := by
    unfold opTo
    rw [List.all_eq_false]
    exact ⟨k, by simpa using hk, by simp [h]⟩
  simp [openB, this]
theorem getD_at {l : List Int} {i : Nat} {x : Int} (h : l[i]? = some x) : l.getD i 0 = x := by rw [List.getD_eq_getElem?_getD, h]; rfl
theorem opK_eq {qs : List Bal} {ws cs ks : List Int} {i : Nat} {s c e : Int} (h1 : (cntL qs ws 3)[i]? = some s) (h2 : cs[i]? = some c) (h3 : ks[i]? = some e) : opK qs ws cs ks i = (countB c && (s == sealO c e)) := by
  unfold opK; rw [getD_at h1, getD_at h2, getD_at h3]
theorem open_cast {qs : List Bal} {ws cs ks : List Int} (h : castB qs ws = false) : openB qs ws cs ks = false := by simp [openB, h]
theorem open_len {qs : List Bal} {ws cs ks : List Int} (h : cs.length ≠ 3) : openB qs ws cs ks = false := by simp [openB, h]
theorem open_keys {qs : List Bal} {ws cs ks : List Int} (h : allB ks 3 expB = false) : openB qs ws cs ks = false := by simp [openB, h]
theorem open_yes {qs : List Bal} {ws cs ks : List Int} (h1 : castB qs ws = true) (h2 : cs.length = 3) (h3 : allB ks 3 expB = true) (h4 : opTo qs ws cs ks 3 = true) : openB qs ws cs ks = true := by simp [openB, h1, h2, h3, h4]
theorem open_cnt {qs : List Bal} {ws cs ks : List Int} (h : allB cs 3 countB = false) : openB qs ws cs ks = false := by
  cases ho : openB qs ws cs ks
  · rfl
  exfalso
  simp only [openB, Bool.and_eq_true, decide_eq_true_eq] at ho
  obtain ⟨⟨⟨h1, h2⟩, h3⟩, h4⟩ := ho
  have : allB cs 3 countB = true := by
    refine allB_true.2 ⟨by omega, fun z hz => ?_⟩
    obtain ⟨i, hi, rfl⟩ := List.mem_iff_getElem.1 hz
    have := List.all_eq_true.1 h4 i (by simp; omega)
    simp only [opK, Bool.and_eq_true] at this
    have e : cs[i]? = some cs[i] := List.getElem?_eq_getElem hi
    rw [getD_at e] at this
    exact this.1
  rw [h] at this
  cases this
theorem l00In_v {n a b : Int} {v : Bool} (h : inR n a b = v) (w : World) : Calls Try.prog 65 #[.int .i64 n, .int .i64 a, .int .i64 b] w fun e w' => e = .returned (.bool v) ∧ w = w' := by subst h; exact l00In_any n a b w
set_option maxHeartbeats 1000000 in
theorem specIsOpening_any (A : Option Addr) (n c : Nat) (qs : List Bal) (B : Option Addr) (m d : Nat) (ws : List Int) (C : Option Addr) (nc cc : Nat) (cs : List Int) (D : Option Addr) (nd cd : Nat) (ks : List Int) (w : World) (h : Bals w A n c qs) (k : Ints .i64 w B m d ws) (hc : Ints .i64 w C nc cc cs) (hk : Ints .i64 w D nd cd ks) :
    Calls Try.prog 46 #[.slice A n c, .slice B m d, .slice C nc cc, .slice D nd cd] w fun e w' => e = .returned (.bool (openB qs ws cs ks)) ∧ Below w.heap.size w w' := by
  have s2 := hc.short
  have s3 := hk.short
  have LC := hc.1
  cases h1 : castB qs ws
  · have H1 := Lib.hid h1
    have R := Lib.hid (open_cast (cs := cs) (ks := ks) h1)
    clear h1
    go_enter Try.func46, Try.ntmps46
    go_wp2_with fail
    refine (l09Cast_any A n c qs B m d ws _ h k).mono ?_
    rintro e w1 ⟨rfl, b1⟩
    rw [H1.out]
    go_wp2_with fail
    go_ret
    exact ⟨ret_bool R.out.symm, b1⟩
  have H1 := Lib.hid h1
  by_cases e3 : nc = 3
  · cases h3 : allB ks 3 expB
    · have H3 := Lib.hid h3
      have R := Lib.hid (open_keys (qs := qs) (ws := ws) (cs := cs) h3)
      subst e3
      clear h1 h3
      go_enter Try.func46, Try.ntmps46
      go_wp2_with fail
      refine (l09Cast_any A n c qs B m d ws _ h k).mono ?_
      rintro e w1 ⟨rfl, b1⟩
      rw [H1.out]
      go_wp2_with fail
      refine (l09Exponents_any D nd cd ks 3 _ (hk.below b1)).mono ?_
      rintro e w2 ⟨rfl, rfl⟩
      rw [H3.out]
      go_wp2_with fail
      go_ret
      exact ⟨ret_bool R.out.symm, b1⟩
    · have H3 := Lib.hid h3
      have KA := Lib.hid (allB_true.1 h3)
      have L3 := Lib.hid (cntL_len qs ws 3)
      have YES := Lib.hid (open_yes (ks := ks) h1 (show cs.length = 3 by omega) h3)
      subst e3
      obtain rfl : nd = 3 := by have := hk.1; have := KA.out.1; omega
      clear h1 h3
      go_enter Try.func46, Try.ntmps46
      go_wp2_with fail
      refine (l09Cast_any A n c qs B m d ws _ h k).mono ?_
      rintro e w1 ⟨rfl, b1⟩
      rw [H1.out]
      go_wp2_with fail
      refine (l09Exponents_any D 3 cd ks 3 _ (hk.below b1)).mono ?_
      rintro e w2 ⟨rfl, rfl⟩
      rw [H3.out]
      go_wp2_with fail
      refine (l09Count_any A n c qs B m d ws _ (h.below b1) (k.below b1) H1.out).mono ?_
      rintro e w2 ⟨A', c', rfl, o, b2⟩
      have bb2 := bel_trans b1 b2
      have O := Lib.hid o.ints
      have hc2 := hc.below bb2
      have hk2 := hk.below bb2
      clear o
      go_wp2_with fail
      go_loopw [10] (fun i wr => ∃ (j : Nat), j ≤ 3 ∧ i = .int .i64 j ∧ opTo qs ws cs ks j = true ∧ Below w2.heap.size w2 wr) (fun i _ => 3 - (intOf i).toNat)
      case atStart => exact ⟨0, by omega, rfl, rfl, Below.refl _ _⟩
      case round =>
        obtain ⟨j, hj, rfl, hto, hbel⟩ := hrel
        have HT := Lib.hid hto
        have belr := bel_trans bb2 hbel
        clear hto
        by_cases hlt : j < 3
        · obtain ⟨bs, os, s, rfl, hbs, cs_, s1_, s2_, hs⟩ := (O.out.below hbel).at hlt
          obtain ⟨bc, oc, x, rfl, hbc, cc_, x1_, x2_, hx⟩ := (hc2.below hbel).at hlt
          obtain ⟨bk, ok, y, rfl, hbk, ck_, y1_, y2_, hy⟩ := (hk2.below hbel).at hlt
          have OK := Lib.hid (opK_eq hs.out hx.out hy.out)
          have by_ := expB_true (KA.out.2 y (mem_of_at hy.out))
          have hd3 : decide ((j : Int) < 3) = true := by simp; omega
          cases hin : countB x
          · have HIN := Lib.hid (show inR x 0 12000 = false from hin)
            have R := Lib.hid (opTo_no hlt (show opK qs ws cs ks j = false by rw [OK.out, hin]; rfl))
            clear hin
            go_wp2_with fail
            go_quiet ((go_at_call 65; exact quiet_left (l00In_v HIN.out _)))
            go_wp2_with fail
            go_ret
            exact ⟨ret_bool R.out.symm, below_drewN belr _⟩
          · have HIN := Lib.hid (show inR x 0 12000 = true from hin)
            have bx := countB_true hin
            obtain ⟨r, hr⟩ : ∃ r, sealO x y = r := ⟨_, rfl⟩
            have LO := Lib.hid (fun W => show Calls Try.prog 88 #[.int .i64 x, .int .i64 y] W fun e w' => e = .returned (.int .i64 r) ∧ W = w' from hr ▸ l09Of_any x y W (by omega) (by omega) (by omega) (by omega))
            by_cases hsr : s = r
            · have T := Lib.hid (show opTo qs ws cs ks (j + 1) = true by rw [opTo_succ, HT.out, OK.out, hin, hr, hsr]; simp)
              clear hin hr
              subst hsr
              have hne : (s != s) = false := by simp
              go_wp2_with fail
              go_quiet ((first | (go_at_call 65; exact quiet_left (l00In_v HIN.out _)) | (go_at_call 88; exact quiet_left (LO.out _))))
              go_wp2_with fail
              go_roundw
              case rel => exact ⟨j + 1, by omega, by go_num, T.out, below_drewN hbel _⟩
              case measure => simp [intOf]; omega
            · have R := Lib.hid (opTo_no hlt (show opK qs ws cs ks j = false by rw [OK.out, hin, hr]; simpa using hsr))
              have hne : (s != r) = true := by simpa using hsr
              clear hin hr
              go_wp2_with fail
              go_quiet ((first | (go_at_call 65; exact quiet_left (l00In_v HIN.out _)) | (go_at_call 88; exact quiet_left (LO.out _))))
              go_wp2_with fail
              go_ret
              exact ⟨ret_bool R.out.symm, below_drewN belr _⟩
        · obtain rfl : j = 3 := by omega
          have R := Lib.hid (YES.out HT.out)
          go_wp2_with fail
          go_ret
          exact ⟨ret_bool R.out.symm, belr⟩
  · have R := Lib.hid (open_len (qs := qs) (ws := ws) (ks := ks) (show cs.length ≠ 3 by omega))
    clear h1
    go_enter Try.func46, Try.ntmps46
    go_wp2_with fail
    refine (l09Cast_any A n c qs B m d ws _ h k).mono ?_
    rintro e w1 ⟨rfl, b1⟩
    rw [H1.out]
    go_wp2_with fail
    go_ret
    exact ⟨ret_bool R.out.symm, b1⟩
theorem isCount_any (n : Int) (w : World) :
    Calls Try.prog 76 #[.int .i64 n] w fun e w' => e = .returned (.bool (countB n)) ∧ w = w' := by
  go_enter Try.func76, Try.ntmps76
  go_wp2_with (go_at_call 56; refine (within_any _ _ _ _).mono ?_; rintro e w' ⟨rfl, rfl⟩)
  go_ret
  exact ⟨rfl, rfl⟩
theorem areAllCl_isCount (a : Addr) (z : Int) (w : World) (hc : w.cell? a = some (.func (.func 76) #[] #[])) :
    Calls Try.prog 91 #[.int .i64 z, .pointer (some a)] w fun e w' => e = .returned (.bool (!countB z)) ∧ Below w.heap.size w w' := by
  go_enter Try.func91, Try.ntmps91
  go_wp2_with (go_at_call 76; refine (isCount_any _ _).mono ?_; rintro e w' ⟨rfl, rfl⟩)
  go_ret
  exact ⟨rfl, Below.refl _ _⟩
theorem areAll_isCount (A : Option Addr) (n c : Nat) (zs : List Int) (m : Int) (w : World) (h : Ints .i64 w A n c zs) :
    Calls Try.prog 57 #[.slice A n c, .int .i64 m, .func (.func 76) #[] #[]] w fun e w' => e = .returned (.bool (allB zs m countB)) ∧ Below w.heap.size w w' :=
  areAll_any A n c zs m 76 countB w h fun a z w hc => areAllCl_isCount a z w hc
set_option maxHeartbeats 1000000 in
theorem implIsOpening_any (A : Option Addr) (n c : Nat) (qs : List Bal) (B : Option Addr) (m d : Nat) (ws : List Int) (C : Option Addr) (nc cc : Nat) (cs : List Int) (D : Option Addr) (nd cd : Nat) (ks : List Int) (w : World) (h : Bals w A n c qs) (k : Ints .i64 w B m d ws) (hc : Ints .i64 w C nc cc cs) (hk : Ints .i64 w D nd cd ks) :
    Calls Try.prog 33 #[.slice A n c, .slice B m d, .slice C nc cc, .slice D nd cd] w fun e w' => e = .returned (.bool (openB qs ws cs ks)) ∧ Below w.heap.size w w' := by
  have s2 := hc.short
  have s3 := hk.short
  cases h1 : castB qs ws
  · have H1 := Lib.hid h1
    have R := Lib.hid (open_cast (cs := cs) (ks := ks) h1)
    clear h1
    go_enter Try.func33, Try.ntmps33
    go_wp2_with fail
    refine (implCountSealed_any A n c qs B m d ws _ h k).mono ?_
    rintro e w1 ⟨A1, c1, rfl, o1, b1⟩
    rw [H1.out]
    go_wp2_with fail
    go_ret
    exact ⟨ret_bool R.out.symm, b1⟩
  have H1 := Lib.hid h1
  cases h2 : allB cs 3 countB
  · have H2 := Lib.hid h2
    have R := Lib.hid (open_cnt (qs := qs) (ws := ws) (ks := ks) h2)
    clear h1 h2
    go_enter Try.func33, Try.ntmps33
    go_wp2_with fail
    refine (implCountSealed_any A n c qs B m d ws _ h k).mono ?_
    rintro e w1 ⟨A1, c1, rfl, o1, b1⟩
    rw [H1.out]
    go_wp2_with fail
    refine (areAll_isCount C nc cc cs 3 _ (hc.below b1)).mono ?_
    rintro e w2 ⟨rfl, b2⟩
    rw [H2.out]
    have bb2 := bel_trans b1 b2
    go_wp2_with fail
    go_ret
    exact ⟨ret_bool R.out.symm, bb2⟩
  have H2 := Lib.hid h2
  have CA := Lib.hid (allB_true.1 h2)
  obtain rfl : nc = 3 := by have := hc.1; have := CA.out.1; omega
  cases h3 : allB ks 3 expB
  · have H3 := Lib.hid h3
    have R := Lib.hid (open_keys (qs := qs) (ws := ws) (cs := cs) h3)
    clear h1 h2 h3
    go_enter Try.func33, Try.ntmps33
    go_wp2_with fail
    refine (implCountSealed_any A n c qs B m d ws _ h k).mono ?_
    rintro e w1 ⟨A1, c1, rfl, o1, b1⟩
    rw [H1.out]
    go_wp2_with fail
    refine (areAll_isCount C 3 cc cs 3 _ (hc.below b1)).mono ?_
    rintro e w2 ⟨rfl, b2⟩
    rw [H2.out]
    have bb2 := bel_trans b1 b2
    go_wp2_with fail
    refine (areAll_isExponent D nd cd ks 3 _ (hk.below bb2)).mono ?_
    rintro e w3 ⟨rfl, b3⟩
    rw [H3.out]
    have bb3 := bel_trans bb2 b3
    go_wp2_with fail
    go_ret
    exact ⟨ret_bool R.out.symm, bb3⟩
  have H3 := Lib.hid h3
  have KA := Lib.hid (allB_true.1 h3)
  have V : Hid (cntV qs ws = cntL qs ws 3) := by show _ = _; unfold cntV; rw [h1]; rfl
  have L3 := Lib.hid (cntL_len qs ws 3)
  have YES := Lib.hid (open_yes (ks := ks) h1 (show cs.length = 3 by have := CA.out.1; omega) h3)
  obtain rfl : nd = 3 := by have := hk.1; have := KA.out.1; omega
  clear h1 h2 h3
  go_enter Try.func33, Try.ntmps33
  go_wp2_with fail
  refine (implCountSealed_any A n c qs B m d ws _ h k).mono ?_
  rintro e w1 ⟨A1, c1, rfl, o1, b1⟩
  rw [V.out, L3.out] at o1
  rw [H1.out, V.out, L3.out]
  have O1 := Lib.hid o1.ints
  clear o1
  go_wp2_with fail
  refine (areAll_isCount C 3 cc cs 3 _ (hc.below b1)).mono ?_
  rintro e w2 ⟨rfl, b2⟩
  rw [H2.out]
  have bb2 := bel_trans b1 b2
  go_wp2_with fail
  refine (areAll_isExponent D 3 cd ks 3 _ (hk.below bb2)).mono ?_
  rintro e w3 ⟨rfl, b3⟩
  rw [H3.out]
  have bb3 := bel_trans bb2 b3
  have O := Lib.hid ((O1.out.below b2).below b3)
  have hc2 := hc.below bb3
  have hk2 := hk.below bb3
  go_wp2_with fail
  go_loopw [33] (fun i wr => ∃ (j : Nat), j ≤ 3 ∧ i = .int .i64 j ∧ opTo qs ws cs ks j = true ∧ Below w3.heap.size w3 wr) (fun i _ => 3 - (intOf i).toNat)
  case atStart => exact ⟨0, by omega, rfl, rfl, Below.refl _ _⟩
  case round =>
    obtain ⟨j, hj, rfl, hto, hbel⟩ := hrel
    have HT := Lib.hid hto
    have belr := bel_trans bb3 hbel
    clear hto
    by_cases hlt : j < 3
    · obtain ⟨bs, os, s, rfl, hbs, cs_, s1_, s2_, hs⟩ := (O.out.below hbel).at hlt
      obtain ⟨bc, oc, x, rfl, hbc, cc_, x1_, x2_, hx⟩ := (hc2.below hbel).at hlt
      obtain ⟨bk, ok, y, rfl, hbk, ck_, y1_, y2_, hy⟩ := (hk2.below hbel).at hlt
      have OK := Lib.hid (opK_eq hs.out hx.out hy.out)
      have by_ := expB_true (KA.out.2 y (mem_of_at hy.out))
      have hin := CA.out.2 x (mem_of_at hx.out)
      have bx := countB_true hin
      have hd3 : decide ((j : Int) < 3) = true := by simp; omega
      obtain ⟨r, hr⟩ : ∃ r, sealO x y = r := ⟨_, rfl⟩
      have LO := Lib.hid (fun W => show Calls Try.prog 55 #[.int .i64 x, .int .i64 y] W fun e w' => e = .returned (.int .i64 r) ∧ W = w' from hr ▸ sealed_any x y W (by omega) (by omega) (by omega) (by omega))
      by_cases hsr : s = r
      · have T := Lib.hid (show opTo qs ws cs ks (j + 1) = true by rw [opTo_succ, HT.out, OK.out, hin, hr, hsr]; simp)
        clear hin hr
        subst hsr
        have hne : (s != s) = false := by simp
        go_wp2_with fail
        go_quiet ((go_at_call 55; exact quiet_left (LO.out _)))
        go_wp2_with fail
        go_roundw
        case rel => exact ⟨j + 1, by omega, by go_num, T.out, below_drewN hbel _⟩
        case measure => simp [intOf]; omega
      · have R := Lib.hid (opTo_no hlt (show opK qs ws cs ks j = false by rw [OK.out, hin, hr]; simpa using hsr))
        have hne : (s != r) = true := by simpa using hsr
        clear hin hr
        go_wp2_with fail
        go_quiet ((go_at_call 55; exact quiet_left (LO.out _)))
        go_wp2_with fail
        go_ret
        exact ⟨ret_bool R.out.symm, below_drewN belr _⟩
    · obtain rfl : j = 3 := by omega
      have R := Lib.hid (YES.out HT.out)
      go_wp2_with fail
      go_ret
      exact ⟨ret_bool R.out.symm, belr⟩
end Go.Proofs.Ytnjnngnagdhaiaa
