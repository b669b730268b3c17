/- B10Election; the sort of a greedy budget. -/
import Derived.Test.YtiodbjfchfmlcaaElE
namespace Go.Proofs.Ytiodbjfchfmlcaa
set_option linter.unusedVariables false
set_option linter.unusedSimpArgs false
set_option maxRecDepth 100000
open Go.RowKit Go.Deep
theorem b10Election_any (An : Option Addr) (nn cn : Nat) (bs : List Int) (w : World) (h : Ints .u8 w An nn cn bs) :
    Calls Try.prog 7 #[.slice An nn cn] w fun r w' => ∃ (e : El) (CA : Option Addr) (m cc : Nat) (AA : Option Addr) (n ac : Nat), r = .returned (.agg #[.int .i64 e.mon, .slice CA m cc, .slice AA n ac]) ∧ EOk e ∧ ElW w' CA m cc AA n ac e ∧ Below w.heap.size w w' := by
  have ba := bel_alloc w (.cells #[.int .i64 0, .slice none 0 0, .slice none 0 0] 27)
  have CG0 := Cs.new w [.int .i64 0, .slice none 0 0, .slice none 0 0] 27
  have LF := Lib.hid (l00From_any An nn cn bs _ (h.below ba))
  have HG0 := Lib.hid CG0
  have B0 := Lib.hid ba
  simp only [List.toArray] at HG0
  clear h ba CG0
  go_enter Try.func7, Try.ntmps7
  go_wp2_with fail
  refine LF.out.mono ?_
  rintro r w1 ⟨g, rfl, hg, hs, hb⟩
  have B1 := Lib.hid (bel_trans B0.out hb)
  have G1 := Lib.hid (HG0.out.below hb)
  have g1 : w.heap.size < g := by simp at hg; omega
  clear hb HG0 B0 LF
  go_wp2_with fail
  refine (l05DrawOk_any g An nn cn bs w1 hs).mono ?_
  rintro r w2 ⟨e, CA, m, cc, AA, n, ac, vs, rfl, ok, hco, hao, hg2⟩
  have B2 := Lib.hid (B1.out.grown hg2 B1.out.size (fun r hr => by injection hr with hr; omega))
  have G2 := G1.out.kept hg2 (by intro e; injection e with e; omega)
  have OK := Lib.hid ok
  have q0 := G2.cell 0 rfl
  have q1 := G2.cell 1 rfl
  have q2 := G2.cell 2 rfl
  have f0 := G2.free 0 rfl
  have f1 := G2.free 1 rfl
  have f2 := G2.free 2 rfl
  have C9 := ((G2.set 0 (.int .i64 e.mon) (by simp)).set 1 (.slice CA m cc) (by simp)).set 2 (.slice AA n ac) (by simp)
  have z0 := C9.cell 0 rfl
  have z1 := C9.cell 1 rfl
  have z2 := C9.cell 2 rfl
  have gs0 := grown_set w2 w.heap.size 0 (.int .i64 e.mon)
  have gs1 := grown_set (w2.setCell ⟨w.heap.size, 0, none⟩ (.int .i64 e.mon)) w.heap.size 1 (.slice CA m cc)
  have gs2 := grown_set ((w2.setCell ⟨w.heap.size, 0, none⟩ (.int .i64 e.mon)).setCell ⟨w.heap.size, 1, none⟩ (.slice CA m cc)) w.heap.size 2 (.slice AA n ac)
  have GS := Lib.hid (grown_trans (grown_trans gs0 gs1) gs2)
  have lw1 : w.heap.size < w1.heap.size := by have := hs.lt; omega
  have CO := Lib.hid (hco.kept GS.out (blk_ne (fun x hx => (hco.block x hx).1) lw1)).ints
  have AO := Lib.hid (hao.kept_out GS.out (fun r hr => by injection hr with hr; omega)).rws
  have B9 := Lib.hid (B2.out.grown GS.out B2.out.size (fun r hr => by injection hr with hr; omega))
  clear gs0 gs1 gs2 GS C9 hco hao hg2 ok hs
  go_wp2_with fail
  exact bodyPost_ret (v := .agg #[.int .i64 e.mon, .slice CA m cc, .slice AA n ac]) (by simp [results, Try.results7, go_sem, z0, z1, z2]) rfl ⟨e, CA, m, cc, AA, n, ac, rfl, OK.out, ⟨CO.out, AO.out⟩, B9.out⟩
end Go.Proofs.Ytiodbjfchfmlcaa
