/- The preferred sets as lists, on both sides. -/
import Derived.Test.YtikodekffdplaaaSrt
import Derived.Test.YtikodekffdplaaaPref
import Derived.Test.YtikodekffdplaaaRwsLaw
namespace Go.Proofs.Ytikodekffdplaaa
set_option linter.unusedVariables false
set_option linter.unusedSimpArgs false
set_option maxRecDepth 100000
open Go.RowKit Go.Deep
def GivesR (zss : List (List Int)) (b : Bool) (w : World) (e : Ending) (w' : World) : Prop := ∃ A c vs, e = .returned (.tuple #[.slice A zss.length c, .bool b]) ∧ OwnM w' w.heap.size A zss.length c vs zss ∧ Below w.heap.size w w'
theorem ownM_nil (w : World) (base : Nat) : OwnM w base none 0 0 [] [] := ⟨⟨rfl, .inl ⟨rfl, rfl⟩⟩, rfl, by simp, .nil⟩
theorem allM_lt {n : Nat} (n10 : n ≤ 10) {p : Nat → Bool} {m : Nat} (h : m ∈ allM n p) : m < 1024 := pow10 n10 (allM_mem.1 h).1
theorem allM_len {n : Nat} (n10 : n ≤ 10) (p : Nat → Bool) : (allM n p).length ≤ 1024 := by
  refine Nat.le_trans (List.length_filter_le _ _) ?_
  rw [List.length_range]
  exact two_pow_le n10
theorem bitsTo_le (m : Nat) : (bitsTo m 10).length ≤ 10 := bitsTo_len m 10
theorem sets_tot {L : List Nat} (hl : L.length ≤ 1024) : (srtL (bitsL L)).length ≤ 1048576 ∧ totL (srtL (bitsL L)) ≤ 1048576000 := by
  have h1 : (srtL (bitsL L)).length = L.length := by rw [srtL_len, bitsL_len]
  refine ⟨by omega, ?_⟩
  have := totL_le (zss := srtL (bitsL L)) (b := 10) fun z hz => by
    obtain ⟨m, _, rfl⟩ := List.mem_map.1 ((srtL_perm _).subset hz)
    exact bitsTo_le m
  omega
theorem prefSI_no (cnt : Int) (rows : List (List Int)) (hv : frB cnt rows = false) (A : Option Addr) (m c : Nat) (w : World) (h : Rws w A m c rows) :
    Calls Try.prog 19 #[.agg #[.int .i64 cnt, .slice A m c]] w fun e w' => e = .returned (.tuple #[.slice none 0 0, .bool false]) ∧ Below w.heap.size w w' := by
  have b0 := bel_alloc w (.cells #[.int .i64 cnt, .slice A m c] 28)
  have C0 := Cs.new w [.int .i64 cnt, .slice A m c] 28
  have y0 := C0.cell 0 rfl
  have y1 := C0.cell 1 rfl
  have V := Lib.hid (validFrame_any cnt rows A m c _ (h.below b0))
  rw [hv] at V
  have B0 := Lib.hid b0
  clear h C0 b0 hv
  go_enter Try.func19, Try.ntmps19
  go_wp2_with fail
  refine V.out.mono ?_
  rintro e w1 ⟨rfl, b1⟩
  have B1 := Lib.hid (bel_trans B0.out b1)
  clear b1
  go_wp2_with fail
  exact bodyPost_ret (v := .tuple #[.slice none 0 0, .bool false]) (by simp [results, Try.results19, go_sem]) rfl ⟨rfl, B1.out⟩
theorem prefSS_no (cnt : Int) (rows : List (List Int)) (hv : frB cnt rows = false) (A : Option Addr) (m c : Nat) (w : World) (h : Rws w A m c rows) :
    Calls Try.prog 18 #[.agg #[.int .i64 cnt, .slice A m c]] w fun e w' => e = .returned (.tuple #[.slice none 0 0, .bool false]) ∧ Below w.heap.size w w' := by
  have b0 := bel_alloc w (.cells #[.int .i64 cnt, .slice A m c] 28)
  have C0 := Cs.new w [.int .i64 cnt, .slice A m c] 28
  have V := Lib.hid (l08Is_any cnt rows _ A m c _ C0 (h.below b0))
  rw [hv] at V
  have B0 := Lib.hid b0
  clear h C0 b0 hv
  go_enter Try.func18, Try.ntmps18
  go_wp2_with fail
  refine V.out.mono ?_
  rintro e w1 ⟨rfl, b1⟩
  have B1 := Lib.hid (bel_trans B0.out b1)
  clear b1
  go_wp2_with fail
  exact bodyPost_ret (v := .tuple #[.slice none 0 0, .bool false]) (by simp [results, Try.results18, go_sem]) rfl ⟨rfl, B1.out⟩
theorem prefSI_ok (n : Nat) (es : List (Nat × Nat)) (ok : FrOk n es) (hv : frB n (es.map erow) = true) (A : Option Addr) (m c : Nat) (w : World) (h : Rws w A m c (es.map erow)) :
    Calls Try.prog 19 #[.agg #[.int .i64 n, .slice A m c]] w (GivesR (srtL (bitsL (prefM n es))) true w) := by
  have b0 := bel_alloc w (.cells #[.int .i64 n, .slice A m c] 28)
  have C0 := Cs.new w [.int .i64 n, .slice A m c] 28
  have y0 := C0.cell 0 rfl
  have y1 := C0.cell 1 rfl
  have V := Lib.hid (validFrame_any n (es.map erow) A m c _ (h.below b0))
  rw [hv] at V
  have HC := Lib.hid C0
  have B0 := Lib.hid b0
  have PR := Lib.hid (fun W hW => preferred_ok n es ok A m c W (h.below (w := w) hW))
  have LB := Lib.hid (fun (x : Nat) (hx : x ∈ prefM n es) => allM_lt ok.n10 hx)
  have hlen : (prefM n es).length ≤ 1024 := allM_len ok.n10 _
  obtain ⟨L, hL⟩ : ∃ l, prefM n es = l := ⟨_, rfl⟩
  rw [hL] at PR LB hlen ⊢
  clear h C0 b0 hv hL
  go_enter Try.func19, Try.ntmps19
  go_wp2_with fail
  refine V.out.mono ?_
  rintro e w1 ⟨rfl, b1⟩
  have C1 := HC.out.below b1
  have z0 := C1.cell 0 rfl
  have z1 := C1.cell 1 rfl
  have B1 := Lib.hid (bel_trans B0.out b1)
  clear y0 y1 b1 V C1
  go_wp2_with fail
  refine (PR.out _ B1.out).mono ?_
  rintro e w2 ⟨A2, c2, rfl, i2, b2⟩
  have I := Lib.hid i2
  have B2 := Lib.hid (bel_trans B1.out b2)
  clear z0 z1 i2 b2 PR
  go_wp2_with fail
  refine (sorted_ok A2 c2 L LB.out hlen _ I.out).mono ?_
  rintro e w3 ⟨A3, c3, vs, rfl, o3, b3⟩
  have O := Lib.hid (o3.mono (b2 := w.heap.size) B2.out.size)
  have B3 := Lib.hid (bel_trans B2.out b3)
  clear o3 b3
  go_wp2_with fail
  exact bodyPost_ret (v := .tuple #[.slice A3 (srtL (bitsL L)).length c3, .bool true]) (by simp [results, Try.results19, go_sem]) rfl ⟨A3, c3, vs, rfl, O.out, B3.out⟩
theorem prefSS_ok (n : Nat) (es : List (Nat × Nat)) (ok : FrOk n es) (hv : frB n (es.map erow) = true) (A : Option Addr) (m c : Nat) (w : World) (h : Rws w A m c (es.map erow)) :
    Calls Try.prog 18 #[.agg #[.int .i64 n, .slice A m c]] w (GivesR (srtL (bitsL (prefM n es))) true w) := by
  have b0 := bel_alloc w (.cells #[.int .i64 n, .slice A m c] 28)
  have C0 := Cs.new w [.int .i64 n, .slice A m c] 28
  have V := Lib.hid (l08Is_any n (es.map erow) _ A m c _ C0 (h.below b0))
  rw [hv] at V
  have OK := Lib.hid ok
  have H := Lib.hid h
  have HC := Lib.hid C0
  have B0 := Lib.hid b0
  have LB := Lib.hid (fun (x : Nat) (hx : x ∈ prefM n es) => allM_lt ok.n10 hx)
  have hlen : (prefM n es).length ≤ 1024 := allM_len ok.n10 _
  have PR := Lib.hid (fun W g (hW : Gr W g n es) => specPref_ok n es ok g W hW)
  simp only [nI_len] at PR
  obtain ⟨L, hL⟩ : ∃ l, prefM n es = l := ⟨_, rfl⟩
  rw [hL] at PR LB hlen ⊢
  clear h C0 b0 hv hL
  go_enter Try.func18, Try.ntmps18
  go_wp2_with fail
  refine V.out.mono ?_
  rintro e w1 ⟨rfl, b1⟩
  have C1 := Lib.hid (HC.out.below b1)
  have B1 := Lib.hid (bel_trans B0.out b1)
  clear b1 V
  go_wp2_with fail
  refine (l08Of_ok n es OK.out _ A m c _ C1.out (H.out.below B1.out)).mono ?_
  rintro e w2 ⟨g, rfl, hg, b2⟩
  have G2 := Lib.hid hg
  have B2 := Lib.hid (bel_trans B1.out b2)
  clear hg b2
  go_wp2_with fail
  refine (PR.out _ _ G2.out).mono ?_
  rintro e w3 ⟨A3, c3, rfl, o3, b3⟩
  have I := Lib.hid o3.ints
  have B3 := Lib.hid (bel_trans B2.out b3)
  clear o3 b3 PR
  go_wp2_with fail
  refine (l08Lists_ok A3 c3 L LB.out hlen _ I.out).mono ?_
  rintro e w4 ⟨A4, c4, vs, rfl, o4, b4⟩
  have O := Lib.hid (o4.mono (b2 := w.heap.size) B3.out.size)
  have B4 := Lib.hid (bel_trans B3.out b4)
  clear o4 b4
  go_wp2_with fail
  exact bodyPost_ret (v := .tuple #[.slice A4 (srtL (bitsL L)).length c4, .bool true]) (by simp [results, Try.results18, go_sem]) rfl ⟨A4, c4, vs, rfl, O.out, B4.out⟩
theorem prefS_both (cnt : Int) (rows : List (List Int)) : ∃ (zs : List (List Int)) (b : Bool), zs.length ≤ 1048576 ∧ totL zs ≤ 1048576000 ∧
    (∀ (A : Option Addr) (m c : Nat) (w : World), Rws w A m c rows → Calls Try.prog 19 #[.agg #[.int .i64 cnt, .slice A m c]] w (GivesR zs b w)) ∧
    (∀ (A : Option Addr) (m c : Nat) (w : World), Rws w A m c rows → Calls Try.prog 18 #[.agg #[.int .i64 cnt, .slice A m c]] w (GivesR zs b w)) := by
  cases hv : frB cnt rows
  · refine ⟨[], false, by simp, by simp [totL], fun A m c w h => (prefSI_no cnt rows hv A m c w h).mono ?_, fun A m c w h => (prefSS_no cnt rows hv A m c w h).mono ?_⟩ <;>
    · rintro e w' ⟨rfl, b⟩
      exact ⟨none, 0, [], rfl, ownM_nil _ _, b⟩
  · obtain ⟨n, es, rfl, rfl, ok⟩ := frB_yes hv
    have hl := sets_tot (allM_len (p := prefB n es) ok.n10)
    exact ⟨_, true, hl.1, hl.2, fun A m c w h => prefSI_ok n es ok hv A m c w h, fun A m c w h => prefSS_ok n es ok hv A m c w h⟩
theorem compSI_no (cnt : Int) (rows : List (List Int)) (hv : frB cnt rows = false) (A : Option Addr) (m c : Nat) (w : World) (h : Rws w A m c rows) :
    Calls Try.prog 17 #[.agg #[.int .i64 cnt, .slice A m c]] w fun e w' => e = .returned (.tuple #[.slice none 0 0, .bool false]) ∧ Below w.heap.size w w' := by
  have b0 := bel_alloc w (.cells #[.int .i64 cnt, .slice A m c] 28)
  have C0 := Cs.new w [.int .i64 cnt, .slice A m c] 28
  have y0 := C0.cell 0 rfl
  have y1 := C0.cell 1 rfl
  have V := Lib.hid (validFrame_any cnt rows A m c _ (h.below b0))
  rw [hv] at V
  have B0 := Lib.hid b0
  clear h C0 b0 hv
  go_enter Try.func17, Try.ntmps17
  go_wp2_with fail
  refine V.out.mono ?_
  rintro e w1 ⟨rfl, b1⟩
  have B1 := Lib.hid (bel_trans B0.out b1)
  clear b1
  go_wp2_with fail
  exact bodyPost_ret (v := .tuple #[.slice none 0 0, .bool false]) (by simp [results, Try.results17, go_sem]) rfl ⟨rfl, B1.out⟩
theorem compSS_no (cnt : Int) (rows : List (List Int)) (hv : frB cnt rows = false) (A : Option Addr) (m c : Nat) (w : World) (h : Rws w A m c rows) :
    Calls Try.prog 16 #[.agg #[.int .i64 cnt, .slice A m c]] w fun e w' => e = .returned (.tuple #[.slice none 0 0, .bool false]) ∧ Below w.heap.size w w' := by
  have b0 := bel_alloc w (.cells #[.int .i64 cnt, .slice A m c] 28)
  have C0 := Cs.new w [.int .i64 cnt, .slice A m c] 28
  have V := Lib.hid (l08Is_any cnt rows _ A m c _ C0 (h.below b0))
  rw [hv] at V
  have B0 := Lib.hid b0
  clear h C0 b0 hv
  go_enter Try.func16, Try.ntmps16
  go_wp2_with fail
  refine V.out.mono ?_
  rintro e w1 ⟨rfl, b1⟩
  have B1 := Lib.hid (bel_trans B0.out b1)
  clear b1
  go_wp2_with fail
  exact bodyPost_ret (v := .tuple #[.slice none 0 0, .bool false]) (by simp [results, Try.results16, go_sem]) rfl ⟨rfl, B1.out⟩
theorem compSS_ok (n : Nat) (es : List (Nat × Nat)) (ok : FrOk n es) (hv : frB n (es.map erow) = true) (A : Option Addr) (m c : Nat) (w : World) (h : Rws w A m c (es.map erow)) :
    Calls Try.prog 16 #[.agg #[.int .i64 n, .slice A m c]] w (GivesR (srtL (bitsL (allM n (compB n es)))) true w) := by
  have b0 := bel_alloc w (.cells #[.int .i64 n, .slice A m c] 28)
  have C0 := Cs.new w [.int .i64 n, .slice A m c] 28
  have V := Lib.hid (l08Is_any n (es.map erow) _ A m c _ C0 (h.below b0))
  rw [hv] at V
  have OK := Lib.hid ok
  have H := Lib.hid h
  have HC := Lib.hid C0
  have B0 := Lib.hid b0
  have LB := Lib.hid (fun (x : Nat) (hx : x ∈ allM n (compB n es)) => allM_lt ok.n10 hx)
  have hlen : (allM n (compB n es)).length ≤ 1024 := allM_len ok.n10 _
  have PR := Lib.hid (fun W g (hW : Gr W g n es) => complete_ok n es ok g W hW)
  simp only [nI_len] at PR
  obtain ⟨L, hL⟩ : ∃ l, allM n (compB n es) = l := ⟨_, rfl⟩
  rw [hL] at PR LB hlen ⊢
  clear h C0 b0 hv hL
  go_enter Try.func16, Try.ntmps16
  go_wp2_with fail
  refine V.out.mono ?_
  rintro e w1 ⟨rfl, b1⟩
  have C1 := Lib.hid (HC.out.below b1)
  have B1 := Lib.hid (bel_trans B0.out b1)
  clear b1 V
  go_wp2_with fail
  refine (l08Of_ok n es OK.out _ A m c _ C1.out (H.out.below B1.out)).mono ?_
  rintro e w2 ⟨g, rfl, hg, b2⟩
  have G2 := Lib.hid hg
  have B2 := Lib.hid (bel_trans B1.out b2)
  clear hg b2
  go_wp2_with fail
  refine (PR.out _ _ G2.out).mono ?_
  rintro e w3 ⟨A3, c3, rfl, o3, b3⟩
  have I := Lib.hid o3.ints
  have B3 := Lib.hid (bel_trans B2.out b3)
  clear o3 b3 PR
  go_wp2_with fail
  refine (l08Lists_ok A3 c3 L LB.out hlen _ I.out).mono ?_
  rintro e w4 ⟨A4, c4, vs, rfl, o4, b4⟩
  have O := Lib.hid (o4.mono (b2 := w.heap.size) B3.out.size)
  have B4 := Lib.hid (bel_trans B3.out b4)
  clear o4 b4
  go_wp2_with fail
  exact bodyPost_ret (v := .tuple #[.slice A4 (srtL (bitsL L)).length c4, .bool true]) (by simp [results, Try.results16, go_sem]) rfl ⟨A4, c4, vs, rfl, O.out, B4.out⟩
end Go.Proofs.Ytikodekffdplaaa
