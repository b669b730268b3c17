/- The walk of FnExactOpenCount. -/
import Derived.Test.YtlehiadlofncfaaCount
namespace Go.Proofs.Ytlehiadlofncfaa
set_option linter.unusedVariables false
open Go.RowKit
set_option maxRecDepth 100000 in
theorem fnExactOpenCount_walk (w : World) (A : Option Addr) (n c : Nat) (zs : List Int) (h : Ints .i64 w A n c zs) (B : Option Addr) (m d : Nat) (ys : List Int) (k : Ints .i64 w B m d ys) :
    Calls Try.prog 11 #[.slice A n c, .slice B m d] w fun e w' => e = .returned (.bool true) ∧ Below w.heap.size w w' := by
  have hm := h.short
  have km := k.short
  have L := openV_len zs ys
  by_cases hn : n ≤ 1048576
  · by_cases hn2 : m ≤ 1048576
    · have zl := Lib.hid h.1
      have yl := Lib.hid k.1
      go_enter Try.func11, Try.ntmps11
      go_wp2_with fail
      refine (toInt64S_any A n c zs _ h hn).mono ?_
      rintro e w1 ⟨A1, c1, rfl, o1, b1⟩
      go_wp2_with fail
      refine (toInt64S_any B m d ys _ (k.below b1) hn2).mono ?_
      rintro e w2 ⟨A2, c2, rfl, o2, b2⟩
      have b12 := bel_trans b1 b2
      go_wp2_with fail
      refine (specOpenCount_any A1 _ c1 zs A2 _ c2 ys _ (o1.ints.below b2) o2.ints).mono ?_
      rintro e w3 ⟨Aw, cw, rfl, ow, b3⟩
      have b13 := bel_trans b12 b3
      go_wp2_with fail
      refine (toInt64S_any A n c zs _ (h.below b13) hn).mono ?_
      rintro e w4 ⟨A4, c4, rfl, o4, b4⟩
      have b14 := bel_trans b13 b4
      go_wp2_with fail
      refine (toInt64S_any B m d ys _ (k.below b14) hn2).mono ?_
      rintro e w5 ⟨A5, c5, rfl, o5, b5⟩
      have b15 := bel_trans b14 b5
      go_wp2_with fail
      refine (implOpenCount_any A4 _ c4 zs A5 _ c5 ys _ (o4.ints.below b5) o5.ints).mono ?_
      rintro e w6 ⟨Ag, cg, rfl, og, b6⟩
      have b16 := bel_trans b15 b6
      go_wp2_with fail
      refine (eqInt64S_any _ _ _ (openV zs ys) _ _ _ (openV zs ys) _ og.ints (((ow.ints.below b4).below b5).below b6)).mono ?_
      rintro e w7 ⟨rfl, b7⟩
      have b17 := bel_trans b16 b7
      go_wp2_with fail
      refine (toInt64S_any A n c zs _ (h.below b17) hn).mono ?_
      rintro e w8 ⟨A8, c8, rfl, o8, b8⟩
      have b18 := bel_trans b17 b8
      go_wp2_with fail
      refine (eqInt64S_any _ _ _ zs _ _ _ zs _ ((((o4.ints.below b5).below b6).below b7).below b8) o8.ints).mono ?_
      rintro e w9 ⟨rfl, b9⟩
      have b19 := bel_trans b18 b9
      go_wp2_with fail
      refine (toInt64S_any B m d ys _ (k.below b19) hn2).mono ?_
      rintro e w10 ⟨A10, c10, rfl, o10, b10⟩
      have b20 := bel_trans b19 b10
      go_wp2_with fail
      refine (eqInt64S_any _ _ _ ys _ _ _ ys _ (((((o5.ints.below b6).below b7).below b8).below b9).below b10) o10.ints).mono ?_
      rintro e w11 ⟨rfl, b11⟩
      have b21 := bel_trans b20 b11
      -- the four rows as they stand now
      have o4' := (((((((o4.below b5).below b6).below b7).below b8).below b9).below b10).below b11)
      have o5' := ((((((o5.below b6).below b7).below b8).below b9).below b10).below b11)
      have og' := (((((og.below b7).below b8).below b9).below b10).below b11)
      have ow' := ((((((((ow.below b4).below b5).below b6).below b7).below b8).below b9).below b10).below b11)
      have lw4 : ∀ g, (Value.slice Aw (openV zs ys).length cw).ownBlock = some g → g < w3.heap.size := fun g hg => (ow.block g hg).2
      have l45 : ∀ g, (Value.slice A4 zs.length c4).ownBlock = some g → g < w4.heap.size := fun g hg => (o4.block g hg).2
      have l56 : ∀ g, (Value.slice A5 ys.length c5).ownBlock = some g → g < w5.heap.size := fun g hg => (o5.block g hg).2
      have s45 := b4.size
      have s56 := b5.size
      have s34 := b13.size
      go_wp2_with fail
      refine (markInt64S_any _ A4 zs.length c4 zs 1 _ o4' (by omega) (by omega) (by rw [zl.out]; omega)).mono ?_
      rintro e w12 ⟨rfl, p4, g12⟩
      have b22 := bel_grown b21 o4' s34 g12
      have p5 := o5'.kept_new (fun g hg => l45 g hg) g12
      have pg := og'.kept_new (fun g hg => by have := l45 g hg; omega) g12
      have pw' := ow'.kept_old o4' lw4 g12
      have zl1 : zs.length ≤ 1048576 := by rw [zl.out]; exact hn
      have yl1 : ys.length ≤ 1048576 := by rw [yl.out]; exact hn2
      go_wp2_with fail
      refine (markInt64S_any _ A5 ys.length c5 ys _ _ p5 (by omega) (by omega) (by omega)).mono ?_
      rintro e w13 ⟨rfl, q5, g13⟩
      have b23 := bel_grown b22 p5 (by omega) g13
      have qg := pg.kept_new (fun g hg => l56 g hg) g13
      have qw := pw'.kept_old p5 (fun g hg => by have := lw4 g hg; omega) g13
      go_wp2_with fail
      refine (eqInt64S_any _ _ _ (openV zs ys) _ _ _ (openV zs ys) _ qg.ints qw.ints).mono ?_
      rintro e w14 ⟨rfl, b24⟩
      have b25 := bel_trans b23 b24
      have rg := qg.below b24
      have rw' := qw.below b24
      go_wp2_with fail
      refine (markInt64S_any _ Ag _ cg _ 1 _ rg (by omega) (by omega) (by omega)).mono ?_
      rintro e w15 ⟨rfl, sg, g15⟩
      have b26 := bel_grown b25 rg b15.size g15
      have sw := rw'.kept_old rg (fun g hg => by have := lw4 g hg; omega) g15
      go_wp2_with fail
      refine (heldInt64S_any Ag _ cg 1 _ sg.ints (by omega) (by omega) (by omega)).mono ?_
      rintro e w16 ⟨rfl, b27⟩
      have b28 := bel_trans b26 b27
      have tg := sg.below b27
      have tw := sw.below b27
      go_wp2_with fail
      refine (toInt64S_any A n c zs _ (h.below b28) hn).mono ?_
      rintro e w17 ⟨A17, c17, rfl, o17, b29⟩
      have b30 := bel_trans b28 b29
      go_wp2_with fail
      refine (toInt64S_any B m d ys _ (k.below b30) hn2).mono ?_
      rintro e w18 ⟨A18, c18, rfl, o18, b31⟩
      have b32 := bel_trans b30 b31
      go_wp2_with fail
      refine (implOpenCount_any A17 _ c17 zs A18 _ c18 ys _ (o17.ints.below b31) o18.ints).mono ?_
      rintro e w19 ⟨Ah, ch, rfl, oh, b33⟩
      have b34 := bel_trans b32 b33
      have ug := ((tg.below b29).below b31).below b33
      have uw := ((tw.below b29).below b31).below b33
      go_wp2_with fail
      refine (eqInt64S_any _ _ _ (openV zs ys) _ _ _ (openV zs ys) _ oh.ints uw.ints).mono ?_
      rintro e w20 ⟨rfl, b35⟩
      have b36 := bel_trans b34 b35
      go_wp2_with fail
      refine (heldInt64S_any Ag _ cg 1 _ (ug.below b35).ints (by omega) (by omega) (by omega)).mono ?_
      rintro e w21 ⟨rfl, b37⟩
      have b38 := bel_trans b36 b37
      go_wp2_with fail
      go_ret
      exact ⟨rfl, b38⟩
    · go_enter Try.func11, Try.ntmps11
      go_wp2_with fail
      go_ret
      exact ⟨rfl, Below.refl _ _⟩
  · go_enter Try.func11, Try.ntmps11
    go_wp2_with fail
    go_ret
    exact ⟨rfl, Below.refl _ _⟩
end Go.Proofs.Ytlehiadlofncfaa
