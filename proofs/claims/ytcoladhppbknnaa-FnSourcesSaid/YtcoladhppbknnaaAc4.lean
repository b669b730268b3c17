/- The source of an article, walked. -/
import Derived.Test.YtcoladhppbknnaaAc3
namespace Go.Proofs.Ytcoladhppbknnaa
set_option linter.unusedVariables false
set_option linter.unusedSimpArgs false
set_option maxRecDepth 100000
open Go.RowKit Go.Deep
open Classical in
noncomputable def srR (es : List Ac) (s : List Ar) (l : List Nat) (id : Int) : Int × Bool :=
  match txt es s l with
  | none => (0, false)
  | some q => if fnd q id = ByteArray.empty then (0, false) else (srcI es id l, true)
theorem srR_none {es : List Ac} {s : List Ar} {l : List Nat} {id : Int} (h : txt es s l = none) : srR es s l id = (0, false) := by unfold srR; rw [h]
theorem srR_out {es : List Ac} {s q : List Ar} {l : List Nat} {id : Int} (h : txt es s l = some q) (hf : fnd q id = ByteArray.empty) : srR es s l id = (0, false) := by unfold srR; rw [h]; exact if_pos hf
theorem srR_ok {es : List Ac} {s q : List Ar} {l : List Nat} {id : Int} (h : txt es s l = some q) (hf : fnd q id ≠ ByteArray.empty) : srR es s l id = (srcI es id l, true) := by unfold srR; rw [h]; exact if_neg hf
set_option maxHeartbeats 2000000 in
theorem SourceOf_ok (A : Option Addr) (n c : Nat) (s : List Ar) (B : Option Addr) (m d : Nat) (es : List Ac) (day id : Int) (w : World) (h : Ars w A n c s) (k : Acs w B m d es) (hs : SOk s) (hl : s.length ≤ 8) (hv : acB es = true) (hd : inR day 0 999 = true) :
    Calls Try.prog 35 #[.slice A n c, .slice B m d, .int .i64 day, .int .i64 id] w fun e w' => e = .returned (.tuple #[.int .i64 (srR es s (frN es day m) id).1, .bool (srR es s (frN es day m) id).2]) ∧ Below w.heap.size w w' := by
  have TO := Lib.hid (TextOn_ok A n c s B m d es day w h k hs hl hv hd)
  obtain rfl : es.length = m := k.len
  have HK := Lib.hid k
  have HV := Lib.hid (acV_of hv)
  have HS := Lib.hid hs
  have h8 := (acV_of hv).len
  clear h k hs hv hd
  go_enter Try.func35, Try.ntmps35
  go_wp2_with fail
  refine TO.out.mono ?_
  rintro e w1 ⟨hr, b1⟩
  have B1 := Lib.hid b1
  clear b1 TO
  rcases hr with ⟨q, O, L, oc, ht, rfl, ho⟩ | ⟨ht, rfl⟩
  case inr =>
    have R := Lib.hid (srR_none (id := id) ht)
    have B9 := B1
    clear ht
    go_wp2_with fail
    exact bodyPost_ret (v := .tuple #[.int .i64 0, .bool false]) (by simp [results, Try.results35, go_sem]) rfl ⟨by rw [R.out], B9.out⟩
  have TX := txt_src HV.out HS.out hl ht
  have AO := Lib.hid (article_ok O L oc q id w1 (ho.ars' TX.1))
  have IF := idx_fnd TX.1 id
  have HT := Lib.hid ht
  clear ht TX ho
  by_cases hx : idxI q (fun a => a.id == id) < 0
  · have R := Lib.hid (srR_out (id := id) HT.out (IF.1 hx))
    have dx := decide_eq_true hx
    clear IF hx
    go_wp2_with fail
    refine AO.out.mono ?_
    rintro e w2 ⟨rfl, b2⟩
    have B9 := Lib.hid (bel_trans B1.out b2)
    clear b2
    go_wp2_with fail
    exact bodyPost_ret (v := .tuple #[.int .i64 0, .bool false]) (by simp [results, Try.results35, go_sem]) rfl ⟨by rw [R.out], B9.out⟩
  have R := Lib.hid (srR_ok (id := id) HT.out (fun e => hx (IF.2 e)))
  have dx := decide_eq_false hx
  clear IF hx
  go_wp2_with fail
  refine AO.out.mono ?_
  rintro e w2 ⟨rfl, b2⟩
  have B2 := Lib.hid (bel_trans B1.out b2)
  clear b2 AO B1
  go_wp2_with fail
  refine (inForce_any B es.length d es day _ (HK.out.below B2.out) (by omega)).mono ?_
  rintro e w3 ⟨F, M, fc, rfl, ho, b3⟩
  have HL := ho.len
  rw [znt_len] at HL
  have HL := Lib.hid HL
  have FI := Lib.hid ho
  have LL := frN_len es day es.length
  have MM := Lib.hid (fun i (hi : i ∈ frN es day es.length) => frN_mem hi)
  obtain ⟨l, hl'⟩ : ∃ x, frN es day es.length = x := ⟨_, rfl⟩
  rw [hl'] at HL FI LL MM R
  have LE := Lib.hid hl'
  have B3 := Lib.hid (bel_trans B2.out b3)
  rw [HL.out] at LL
  clear ho b3 hl' B2 dx HT
  go_wp2_with fail
  go_loopw [12, 36] (fun s12 t wr => ∃ (k : Nat), k ≤ M ∧ s12 = .int .i64 (srcI es id (l.take k)) ∧ t = .int .i64 k ∧ Below w.heap.size w wr ∧ Below w3.heap.size w3 wr) (fun _ t _ => M - (intOf t).toNat)
  case atStart => exact ⟨0, Nat.zero_le _, rfl, rfl, B3.out, Below.refl _ _⟩
  case round =>
    obtain ⟨k, hk, rfl, rfl, hb, hb2⟩ := hrel
    have HB := Lib.hid hb
    have HB2 := Lib.hid hb2
    clear hb hb2 B3
    by_cases hlt : k < M
    · have d0 := decide_eq_true (show (k : Int) < (M : Int) by omega)
      have k0 : (0 : Int) ≤ (k : Int) := by omega
      have k1' : (k : Int) < (M : Int) := by omega
      have hkl : k < l.length := by rw [HL.out]; omega
      obtain ⟨i, hi⟩ : ∃ i, l[k]? = some i := ⟨_, List.getElem?_eq_getElem hkl⟩
      have him : i < es.length := MM.out i (List.mem_of_getElem? hi)
      obtain ⟨bf, fo, rfl, cf⟩ := ints_get (FI.out.below HB2.out).ints (znt_at hi)
      obtain ⟨b, off, e, rfl, hbw, he, ok, y0, y1, y2⟩ := (HK.out.below HB.out).at him
      have i0' : (0 : Int) ≤ (i : Int) := by omega
      have i1' : (i : Int) < (es.length : Int) := by omega
      have GE := getD_ac he.out
      have NX := srcI_snoc' (es := es) (id := id) hi
      rw [GE] at NX
      have OE := Lib.hid ok.out.p
      clear ok he GE hi hkl
      cases hh : edo e.p id with
      | none =>
        have EO := Lib.hid (editOf_no e.A e.n e.c e.p id wr OE.out hh)
        rw [hh, Option.isSome_none, if_neg (by simp)] at NX
        have NY := Lib.hid NX
        clear NX hh
        go_wp2_with fail
        refine EO.out.mono ?_
        rintro x w4 ⟨rfl, b4⟩
        have ba := bel_alloc w4 (.cells #[.int .i64 0, .int .i64 0, .string ⟨#[]⟩, .string ⟨#[]⟩] 74)
        have X1 := Lib.hid (bel_trans HB.out (bel_trans b4 ba))
        have X2 := Lib.hid (bel_trans HB2.out (bel_trans b4 ba))
        clear b4 ba EO
        go_wp2_with fail
        go_roundw
        case rel => exact ⟨k + 1, by omega, by rw [NY.out], by go_num, X1.out, X2.out⟩
        case measure => simp [intOf]; omega
      | some a =>
        have EO := Lib.hid (editOf_yes e.A e.n e.c e.p id wr OE.out hh)
        rw [hh, Option.isSome_some, if_pos rfl] at NX
        have NY := Lib.hid NX
        clear NX hh
        go_wp2_with fail
        refine EO.out.mono ?_
        rintro x w4 ⟨rfl, b4⟩
        have ba := bel_alloc w4 (.cells #[.int .i64 a.kind, .int .i64 a.id, .string a.old, .string a.new] 74)
        have X1 := Lib.hid (bel_trans HB.out (bel_trans b4 ba))
        have X2 := Lib.hid (bel_trans HB2.out (bel_trans b4 ba))
        clear b4 ba EO
        go_wp2_with fail
        go_roundw
        case rel => exact ⟨k + 1, by omega, by rw [NY.out], by go_num, X1.out, X2.out⟩
        case measure => simp [intOf]; omega
    · obtain rfl : M = k := by omega
      have RR := Lib.hid (show srR es s (frN es day es.length) id = (srcI es id (l.take M), true) by rw [LE.out, R.out, List.take_of_length_le (by rw [HL.out]; exact Nat.le_refl _)])
      go_wp2_with fail
      exact bodyPost_ret (v := .tuple #[.int .i64 (srcI es id (l.take M)), .bool true]) (by simp [results, Try.results35, go_sem]) rfl ⟨by rw [RR.out], HB.out⟩
end Go.Proofs.Ytcoladhppbknnaa
