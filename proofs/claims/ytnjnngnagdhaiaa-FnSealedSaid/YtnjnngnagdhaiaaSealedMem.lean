/- The plain law of sealed ballots; the lists of FnSealed, each leading to blocks of its own. -/
import Derived.Test.YtnjnngnagdhaiaaIsOpen
import Derived.Test.YtnjnngnagdhaiaaBits
import Derived.Test.YtnjnngnagdhaiaaSpecSeal
import Derived.Test.YtnjnngnagdhaiaaCount
import Derived.Test.YtnjnngnagdhaiaaImplSeal
namespace Go.Proofs.Ytnjnngnagdhaiaa
set_option linter.unusedVariables false
set_option maxRecDepth 100000
open Go.RowKit
theorem list3 {l : List Int} (h : l.length = 3) : ∃ a b c, l = [a, b, c] := by
  match l, h with
  | [a, b, c], _ => exact ⟨a, b, c, rfl⟩
theorem bit01 (v : Int) (i : Nat) : bitOf v i = 0 ∨ bitOf v i = 1 := by unfold bitOf; split <;> simp
theorem made_bit (v k : Int) (i : Nat) {ns : List Int} (hk : expB k = true) (hn : allB ns 3 expB = true) :
    bitB (sealO (bitOf v i) k) ⟨prM (bitOf v i) k ns, prC (bitOf v i) k ns, prA (bitOf v i) k ns⟩ = true := by
  obtain ⟨h1, h2⟩ := allB_true.1 hn
  obtain ⟨a, b, c, rfl⟩ := list3 (l := ns) (by omega)
  obtain ⟨m0, m1, c0, c1, a0, a1, e1, e2, e3, h⟩ := made_ok (bit01 v i) hk (h2 a (by simp)) (h2 b (by simp)) (h2 c (by simp))
  unfold bitB
  simp only
  rw [e1, e2, e3]
  exact h.accepted
theorem bit_sum {v : Int} (h : voteB v = true) : bitOf v 0 + bitOf v 1 + bitOf v 2 = 1 := by
  have := voteB_true h
  rcases (show v = 0 ∨ v = 1 ∨ v = 2 by omega) with rfl | rfl | rfl <;> decide
theorem seal_stepI {S K v k w : Int} (hS : 0 ≤ S) (hK : 0 ≤ K) (hv : 0 ≤ v) (hk : 0 ≤ k) (hw : 0 ≤ w) : joinSS (sealO S K) (sealO v k, w) = sealO (S + w * v) (joinKS K (k, w)) := by
  obtain ⟨S, rfl⟩ := Int.eq_ofNat_of_zero_le hS
  obtain ⟨K, rfl⟩ := Int.eq_ofNat_of_zero_le hK
  obtain ⟨v, rfl⟩ := Int.eq_ofNat_of_zero_le hv
  obtain ⟨k, rfl⟩ := Int.eq_ofNat_of_zero_le hk
  obtain ⟨w, rfl⟩ := Int.eq_ofNat_of_zero_le hw
  rw [seal_step]
  congr 1
theorem sealed_bal {v : Int} {ks : List Int} {nss : List (List Int)} (h : slB v ks nss = true) : balB (slS v ks 3) (slP v ks nss 3) (slK ks 3) = true := by
  unfold slB at h
  simp only [Bool.and_eq_true, decide_eq_true_eq] at h
  obtain ⟨⟨hv, hk⟩, hl, hn⟩ := h
  obtain ⟨k3, hk⟩ := allB_true.1 hk
  obtain ⟨a, b, c, rfl⟩ := list3 (l := ks) (by omega)
  have hn := List.all_eq_true.1 hn
  match nss, hl, hn with
  | [x, y, z], _, hn =>
    have b0 := expB_true (hk a (by simp))
    have b1 := expB_true (hk b (by simp))
    have b2 := expB_true (hk c (by simp))
    have g0 := bitOf_in v 0
    have g1 := bitOf_in v 1
    have g2 := bitOf_in v 2
    have hb := slK_bd [a, b, c] 3
    have e1 : bitsB (slS v [a, b, c] 3) (slP v [a, b, c] [x, y, z] 3) 3 = true := by
      unfold bitsB
      rw [List.all_eq_true]
      intro i hi
      have hi := List.mem_range.1 hi
      match i, hi with
      | 0, _ => exact made_bit v a 0 (hk a (by simp)) (hn x (by simp))
      | 1, _ => exact made_bit v b 1 (hk b (by simp)) (hn y (by simp))
      | 2, _ => exact made_bit v c 2 (hk c (by simp)) (hn z (by simp))
    have e2 : prodM (slS v [a, b, c] 3) = sealO 1 (slK [a, b, c] 3) := by
      rw [← join3 (by simp [slS]), ← joinK3 rfl]
      have s1 : slS v [a, b, c] 3 = [sealO (bitOf v 0) a, sealO (bitOf v 1) b, sealO (bitOf v 2) c] := rfl
      rw [s1]
      show joinSS (joinSS (joinSS 1 (sealO (bitOf v 0) a, 1)) (sealO (bitOf v 1) b, 1)) (sealO (bitOf v 2) c, 1) = sealO 1 (joinKS (joinKS (joinKS 0 (a, 1)) (b, 1)) (c, 1))
      have j0 := joinKS_bd 0 (a, 1)
      have j1 := joinKS_bd (joinKS 0 (a, 1)) (b, 1)
      rw [show (1 : Int) = sealO 0 0 by decide]
      rw [show sealO 0 0 = (1 : Int) by decide]
      conv => lhs; arg 1; arg 1; arg 1; rw [show (1 : Int) = sealO 0 0 by decide]
      rw [seal_stepI (by omega) (by omega) g0.1 b0.1 (by omega), seal_stepI (by omega) j0.1 g1.1 b1.1 (by omega), seal_stepI (by omega) j1.1 g2.1 b2.1 (by omega)]
      have := bit_sum hv
      congr 1
      omega
    unfold balB
    rw [e1, e2]
    simp [slS, slP, expB_of hb]
/-- What the loop's lists hold. -/
structure SInv (qs : List Bal) (vs ws P0 P1 P2 : List Int) (i : Nat) : Prop where
  lq : qs.length = i
  lv : vs.length = i
  lw : ws.length = i
  lp : P0.length = i ∧ P1.length = i ∧ P2.length = i
  hp : (∀ z ∈ P0, expB z = true) ∧ (∀ z ∈ P1, expB z = true) ∧ ∀ z ∈ P2, expB z = true
  hq : ∀ q ∈ qs, balQ q = true
  hv : ∀ z ∈ vs, voteB z = true
  hw : ∀ z ∈ ws, 0 ≤ z ∧ z ≤ 5
  cnt : ∃ x0 x1 x2, count vs ws = [x0, x1, x2] ∧ (0 ≤ x0 ∧ 0 ≤ x1 ∧ 0 ≤ x2) ∧ x0 + x1 + x2 = ws.sum ∧ x0 + x1 + x2 ≤ 5 * (i : Int) ∧
    joinS (balCol qs 0 i) ws = sealO x0 (joinK P0 ws) ∧ joinS (balCol qs 1 i) ws = sealO x1 (joinK P1 ws) ∧ joinS (balCol qs 2 i) ws = sealO x2 (joinK P2 ws)
theorem SInv.start : SInv [] [] [] [] [] [] 0 := ⟨rfl, rfl, rfl, ⟨rfl, rfl, rfl⟩, ⟨by simp, by simp, by simp⟩, by simp, by simp, by simp, 0, 0, 0, rfl, ⟨by omega, by omega, by omega⟩, rfl, by omega, by decide, by decide, by decide⟩
theorem joinS_snoc {ss ws : List Int} (h : ss.length = ws.length) (s w : Int) : joinS (ss ++ [s]) (ws ++ [w]) = joinSS (joinS ss ws) (s, w) := by
  unfold joinS; rw [List.zip_append h, List.foldl_append]; rfl
theorem joinK_snoc {ss ws : List Int} (h : ss.length = ws.length) (s w : Int) : joinK (ss ++ [s]) (ws ++ [w]) = joinKS (joinK ss ws) (s, w) := by
  unfold joinK; rw [List.zip_append h, List.foldl_append]; rfl
theorem count_snoc {vs ws : List Int} (h : vs.length = ws.length) (v w : Int) : count (vs ++ [v]) (ws ++ [w]) = cntS (count vs ws) (v, w) := by
  unfold count; rw [List.zip_append h, List.foldl_append]; rfl
theorem balCol_snoc (qs : List Bal) (q : Bal) (k : Nat) {x : Int} (hx : q.ss[k]? = some x) : balCol (qs ++ [q]) k (qs.length + 1) = balCol qs k qs.length ++ [x] := by
  rw [balCol_succ (q := q) (x := x) (by simp) hx]
  simp [balCol]
theorem SInv.next {qs : List Bal} {vs ws P0 P1 P2 : List Int} {i : Nat} (h : SInv qs vs ws P0 P1 P2 i) {v w a b c : Int} {nss : List (List Int)} (hb : slB v [a, b, c] nss = true) (hw : 0 ≤ w) (hw' : w ≤ 5) :
    SInv (qs ++ [⟨slS v [a, b, c] 3, slP v [a, b, c] nss 3, slK [a, b, c] 3⟩]) (vs ++ [v]) (ws ++ [w]) (P0 ++ [a]) (P1 ++ [b]) (P2 ++ [c]) (i + 1) := by
  have HB := hb
  unfold slB at hb
  simp only [Bool.and_eq_true, decide_eq_true_eq] at hb
  obtain ⟨⟨hv, hk⟩, hl, hn⟩ := hb
  have hk := (allB_true.1 hk).2
  have hv : voteB v = true := hv
  obtain ⟨x0, x1, x2, e, ⟨p0, p1, p2⟩, es, eb, q0, q1, q2⟩ := h.cnt
  have lens : ∀ {l : List Int}, l.length = i → ∀ z : Int, (l ++ [z]).length = i + 1 := fun hl z => by simp [hl]
  have exps : ∀ {l : List Int} {z : Int}, (∀ z ∈ l, expB z = true) → expB z = true → ∀ y ∈ l ++ [z], expB y = true := fun h1 h2 y hy => by
    rcases List.mem_append.1 hy with hy | hy
    · exact h1 y hy
    · simp at hy; subst hy; exact h2
  refine ⟨by simp [h.lq], lens h.lv v, lens h.lw w, ⟨lens h.lp.1 a, lens h.lp.2.1 b, lens h.lp.2.2 c⟩, ⟨exps h.hp.1 (hk a (by simp)), exps h.hp.2.1 (hk b (by simp)), exps h.hp.2.2 (hk c (by simp))⟩, ?_, ?_, ?_, ?_⟩
  · intro q hq
    rcases List.mem_append.1 hq with hq | hq
    · exact h.hq q hq
    · simp at hq; subst hq; exact sealed_bal HB
  · intro z hz
    rcases List.mem_append.1 hz with hz | hz
    · exact h.hv z hz
    · simp at hz; subst hz; exact hv
  · intro z hz
    rcases List.mem_append.1 hz with hz | hz
    · exact h.hw z hz
    · simp at hz; subst hz; exact ⟨hw, hw'⟩
  · have ba := expB_true (hk a (by simp))
    have bb := expB_true (hk b (by simp))
    have bc := expB_true (hk c (by simp))
    have g0 := bitOf_in v 0
    have g1 := bitOf_in v 1
    have g2 := bitOf_in v 2
    have c0 : joinS (balCol (qs ++ [⟨slS v [a, b, c] 3, slP v [a, b, c] nss 3, slK [a, b, c] 3⟩]) 0 (i + 1)) (ws ++ [w]) = sealO (x0 + w * bitOf v 0) (joinK (P0 ++ [a]) (ws ++ [w])) := by
      rw [← h.lq, balCol_snoc qs _ 0 (x := sealO (bitOf v 0) a) rfl, joinS_snoc (by rw [balCol_len (Nat.le_refl _), h.lq, h.lw]), joinK_snoc (by rw [h.lp.1, h.lw]), h.lq, q0, seal_stepI p0 (joinK_bd _ _).1 g0.1 ba.1 hw]
    have c1 : joinS (balCol (qs ++ [⟨slS v [a, b, c] 3, slP v [a, b, c] nss 3, slK [a, b, c] 3⟩]) 1 (i + 1)) (ws ++ [w]) = sealO (x1 + w * bitOf v 1) (joinK (P1 ++ [b]) (ws ++ [w])) := by
      rw [← h.lq, balCol_snoc qs _ 1 (x := sealO (bitOf v 1) b) rfl, joinS_snoc (by rw [balCol_len (Nat.le_refl _), h.lq, h.lw]), joinK_snoc (by rw [h.lp.2.1, h.lw]), h.lq, q1, seal_stepI p1 (joinK_bd _ _).1 g1.1 bb.1 hw]
    have c2 : joinS (balCol (qs ++ [⟨slS v [a, b, c] 3, slP v [a, b, c] nss 3, slK [a, b, c] 3⟩]) 2 (i + 1)) (ws ++ [w]) = sealO (x2 + w * bitOf v 2) (joinK (P2 ++ [c]) (ws ++ [w])) := by
      rw [← h.lq, balCol_snoc qs _ 2 (x := sealO (bitOf v 2) c) rfl, joinS_snoc (by rw [balCol_len (Nat.le_refl _), h.lq, h.lw]), joinK_snoc (by rw [h.lp.2.2, h.lw]), h.lq, q2, seal_stepI p2 (joinK_bd _ _).1 g2.1 bc.1 hw]
    have hs := bit_sum hv
    have hvv := voteB_true hv
    have ce : count (vs ++ [v]) (ws ++ [w]) = [x0 + w * bitOf v 0, x1 + w * bitOf v 1, x2 + w * bitOf v 2] := by
      rw [count_snoc (by rw [h.lv, h.lw]), e]
      rcases (show v = 0 ∨ v = 1 ∨ v = 2 by omega) with rfl | rfl | rfl <;> simp [cntS, bitOf]
    have sw : w * bitOf v 0 + w * bitOf v 1 + w * bitOf v 2 = w := by rw [← Int.mul_add, ← Int.mul_add, hs, Int.mul_one]
    refine ⟨_, _, _, ce, ⟨?_, ?_, ?_⟩, ?_, ?_, c0, c1, c2⟩
    · have := Int.mul_nonneg hw g0.1; omega
    · have := Int.mul_nonneg hw g1.1; omega
    · have := Int.mul_nonneg hw g2.1; omega
    · rw [List.sum_append, ← es]; simp; omega
    · rw [Int.natCast_add]; omega
section
variable {qs : List Bal} {vs ws P0 P1 P2 : List Int} {i : Nat}
theorem SInv.wts (h : SInv qs vs ws P0 P1 P2 i) : allB ws (i : Int) weightB = true := allB_true.2 ⟨by rw [h.lw], fun z hz => inR_true.2 (by have := h.hw z hz; omega)⟩
theorem SInv.votes (h : SInv qs vs ws P0 P1 P2 i) (hi : i ≤ 2) : votesB vs ws = true ∧ openV vs ws = count vs ws := by
  have h1 : votesB vs ws = true := by
    unfold votesB
    rw [h.lv, h.wts, List.all_eq_true.2 h.hv]
    simp; omega
  exact ⟨h1, openV_yes h1⟩
theorem SInv.cast (h : SInv qs vs ws P0 P1 P2 i) (hi : i ≤ 2) : castB qs ws = true ∧ cntV qs ws = cntL qs ws 3 := by
  have h1 : castB qs ws = true := cast_yes (by rw [h.lq]; omega) (by rw [h.lq]; exact h.wts) (List.all_eq_true.2 h.hq)
  exact ⟨h1, by simp [cntV, h1]⟩
theorem SInv.key (h : SInv qs vs ws P0 P1 P2 i) (hi : i ≤ 2) : (joinB P0 ws expB = true ∧ joinKV P0 ws = joinK P0 ws) ∧ (joinB P1 ws expB = true ∧ joinKV P1 ws = joinK P1 ws) ∧ joinB P2 ws expB = true ∧ joinKV P2 ws = joinK P2 ws :=
  ⟨joinKV_yes (joinB_yes h.lp.1 (by omega) (List.all_eq_true.2 h.hp.1) h.wts), joinKV_yes (joinB_yes h.lp.2.1 (by omega) (List.all_eq_true.2 h.hp.2.1) h.wts), joinKV_yes (joinB_yes h.lp.2.2 (by omega) (List.all_eq_true.2 h.hp.2.2) h.wts)⟩
theorem SInv.opens (h : SInv qs vs ws P0 P1 P2 i) (hi : i ≤ 2) : ∃ x0 x1 x2, count vs ws = [x0, x1, x2] ∧ (0 ≤ x0 ∧ x0 ≤ 10) ∧ (0 ≤ x1 ∧ x1 ≤ 10) ∧ (0 ≤ x2 ∧ x2 ≤ 10) ∧ x0 + x1 + x2 = ws.sum ∧
    openB qs ws [x0, x1, x2] [joinK P0 ws, joinK P1 ws, joinK P2 ws] = true ∧
    openB qs ws [x0 + 1, x1, x2] [joinK P0 ws, joinK P1 ws, joinK P2 ws] = false ∧ openB qs ws [x0, x1 + 1, x2] [joinK P0 ws, joinK P1 ws, joinK P2 ws] = false ∧ openB qs ws [x0, x1, x2 + 1] [joinK P0 ws, joinK P1 ws, joinK P2 ws] = false := by
  obtain ⟨x0, x1, x2, e, ⟨p0, p1, p2⟩, es, eb, q0, q1, q2⟩ := h.cnt
  have cl : cntL qs ws 3 = [sealO x0 (joinK P0 ws), sealO x1 (joinK P1 ws), sealO x2 (joinK P2 ws)] := by
    rw [← q0, ← q1, ← q2, ← h.lq]; rfl
  have j0 := joinK_bd P0 ws
  have j1 := joinK_bd P1 ws
  have j2 := joinK_bd P2 ws
  have hc : allB [joinK P0 ws, joinK P1 ws, joinK P2 ws] 3 expB = true := allB_true.2 ⟨rfl, by
    intro z hz; simp at hz; rcases hz with rfl | rfl | rfl
    · exact expB_of j0
    · exact expB_of j1
    · exact expB_of j2⟩
  have cb : ∀ {x : Int}, 0 ≤ x → x ≤ 12000 → countB x = true := fun h1 h2 => inR_true.2 ⟨h1, h2⟩
  have nx : ∀ {x K : Int}, 0 ≤ x → 0 ≤ K → (sealO x K == sealO (x + 1) K) = false := fun {x K} h1 h2 => by
    obtain ⟨x, rfl⟩ := Int.eq_ofNat_of_zero_le h1
    obtain ⟨K, rfl⟩ := Int.eq_ofNat_of_zero_le h2
    have := sealO_next x K
    simpa using this
  refine ⟨x0, x1, x2, e, by omega, by omega, by omega, es, ?_, ?_, ?_, ?_⟩
  · unfold openB
    rw [(h.cast hi).1, hc]
    simp [opTo, opK, cl, List.range_succ, cb p0 (by omega), cb p1 (by omega), cb p2 (by omega)]
  · exact opTo_no (k := 0) (by omega) (by simp [opK, cl, nx p0 j0.1])
  · exact opTo_no (k := 1) (by omega) (by simp [opK, cl, nx p1 j1.1])
  · exact opTo_no (k := 2) (by omega) (by simp [opK, cl, nx p2 j2.1])
end
theorem BR.keptT {lo hi : Nat} {w w' : World} {A : Option Addr} {n c : Nat} {ss : List Int} {B : Option Addr} {m d : Nat} {hv : List Value} {ps : List Bp} (h : BR lo hi w A n c ss B m d hv ps)
    {b2 e2 s2 n2 : Nat} {v2 : Value} {ys : List Value} (k : w.ownsRow b2 e2 s2 v2 n2 ys) (h1 : 2 ≠ e2) (h2 : 31 ≠ e2) (hg : w.grownBy w' v2.ownBlock) : BR lo hi w' A n c ss B m d hv ps :=
  ⟨⟨h.pb.own.kept hg (own_ne h.pb.own.1 k h1), h.pb.hd.kept hg (own_ne h.pb.hd k h2), h.pb.len, fun j zs e => by obtain ⟨A', c', e1, o⟩ := h.pb.row j zs e; exact ⟨A', c', e1, o.kept hg (own_ne o.1 k h1)⟩, h.pb.apart⟩, h.t0, h.t1, h.t2⟩
theorem BR.keptR {lo hi : Nat} {w w' : World} {A : Option Addr} {n c : Nat} {ss : List Int} {B : Option Addr} {m d : Nat} {hv : List Value} {ps : List Bp} (h : BR lo hi w A n c ss B m d hv ps)
    {row : Option Nat} (hg : w.grownBy w' row) (hd : ∀ g, row = some g → g < lo ∨ hi ≤ g) : BR lo hi w' A n c ss B m d hv ps := by
  cases row with
  | none => exact h.only (Only.of_grown (lo := hi) (hi := hi) hg (by simp)) (by unfold Off; omega)
  | some g =>
    rcases hd g rfl with h1 | h1
    · exact h.only (Only.of_grown (lo := g) (hi := g + 1) hg (fun x hx => by injection hx with hx; omega)) (by unfold Off; omega)
    · exact h.only (Only.of_grown (lo := g) (hi := g + 1) hg (fun x hx => by injection hx with hx; omega)) (by unfold Off; omega)
structure Mb where
  lo : Nat
  hi : Nat
  A : Option Addr
  c : Nat
  ss : List Int
  B : Option Addr
  d : Nat
  hv : List Value
  ps : List Bp
  key : Int
def Mb.ok (b : Mb) (w : World) : Prop := BR b.lo b.hi w b.A b.ss.length b.c b.ss b.B b.ps.length b.d b.hv b.ps
def Mb.vals (b : Mb) : List Value := [.slice b.A b.ss.length b.c, .slice b.B b.ps.length b.d, .int .i64 b.key]
def Mb.bal (b : Mb) : Bal := ⟨b.ss, b.ps, b.key⟩
theorem mvals_at {bs : List Mb} : ∀ {j : Nat} {b : Mb}, bs[j]? = some b → (bs.flatMap Mb.vals)[j * 3]? = some (.slice b.A b.ss.length b.c) ∧ (bs.flatMap Mb.vals)[j * 3 + 1]? = some (.slice b.B b.ps.length b.d) ∧ (bs.flatMap Mb.vals)[j * 3 + 2]? = some (.int .i64 b.key) := by
  induction bs with
  | nil => intro j b h; simp at h
  | cons q t ih =>
    intro j b h
    have e : (q :: t).flatMap Mb.vals = .slice q.A q.ss.length q.c :: .slice q.B q.ps.length q.d :: .int .i64 q.key :: t.flatMap Mb.vals := rfl
    rw [e]
    cases j with
    | zero => simp at h; subst h; exact ⟨rfl, rfl, rfl⟩
    | succ j =>
      simp at h
      obtain ⟨x, y, z⟩ := ih h
      rw [show (j + 1) * 3 = j * 3 + 1 + 1 + 1 by omega]
      simp only [List.getElem?_cons_succ]
      exact ⟨x, y, z⟩
structure SS (base : Nat) (w1 w : World) (Q : Option Addr) (n d : Nat) (bs : List Mb) (vs : List Value) (zss : List (List Int)) (P : Nat) (pv : List Value) : Prop where
  out : w.ownsRow base 48 3 (.slice Q n d) n (bs.flatMap Mb.vals)
  num : bs.length = n
  bok : ∀ b ∈ bs, b.ok w ∧ b.hi ≤ w.heap.size
  len : vs.length = zss.length
  row : ∀ (j : Nat) (zs : List Int), zss[j]? = some zs → ∃ A c, vs[j]? = some (Value.slice A zs.length c) ∧ OwnI w base A zs.length c zs
  apart : vs.Pairwise Apart
  off : ∀ v ∈ vs, ∀ g, v.ownBlock = some g → ∀ b ∈ bs, g < b.lo ∨ b.hi ≤ g
  par : w.ownsRow base 29 1 (.slice (some ⟨P, 0, none⟩) 3 3) 3 pv
  bel : Below w1.heap.size w1 w
  low : w1.heap.size ≤ base
  lowB : base ≤ w.heap.size
section
variable {base : Nat} {w1 w w' : World} {Q : Option Addr} {n d : Nat} {bs : List Mb} {vs : List Value} {zss : List (List Int)} {P : Nat} {pv : List Value}
theorem own_below {w w' : World} {b e s n : Nat} {v : Value} {xs : List Value} (h : w.ownsRow b e s v n xs) (hb : Below w.heap.size w w') : w'.ownsRow b e s v n xs :=
  h.kept (row := none) ⟨hb.os, hb.tape, hb.output, hb.size, fun k hk _ => hb.block k hk⟩ (by cases v.ownBlock <;> simp)
theorem SS.below (h : SS base w1 w Q n d bs vs zss P pv) (b : Below w.heap.size w w') : SS base w1 w' Q n d bs vs zss P pv :=
  ⟨own_below h.out b, h.num, fun x hx => ⟨BR.below (h.bok x hx).1 b, Nat.le_trans (h.bok x hx).2 b.size⟩, h.len, fun j zs e => by obtain ⟨A, c, e1, o⟩ := h.row j zs e; exact ⟨A, c, e1, o.below b⟩, h.apart, h.off, own_below h.par b, bel_trans h.bel b, h.low, Nat.le_trans h.lowB b.size⟩
theorem SS.tops (h : SS base w1 w Q n d bs vs zss P pv) : ∀ v ∈ vs, ∀ g, v.ownBlock = some g → g < w.heap.size := by
  intro v hv g hg
  obtain ⟨j, hj⟩ := List.mem_iff_getElem?.1 hv
  have hl : j < zss.length := by rw [← h.len]; exact (List.getElem?_eq_some_iff.1 hj).1
  obtain ⟨A, c, e, o⟩ := h.row j _ (List.getElem?_eq_getElem hl)
  rw [hj] at e
  injection e with e
  subst e
  exact (o.block g hg).2
/-- A ballot more. -/
theorem SS.ballot (h : SS base w1 w Q n d bs vs zss P pv) {b : Mb} (hb : b.ok w) (hh : b.hi ≤ w.heap.size) (hlo : ∀ v ∈ vs, ∀ g, v.ownBlock = some g → g < b.lo ∨ b.hi ≤ g) {Q' : Option Addr} {d' : Nat}
    (o : w'.ownsRow base 48 3 (.slice Q' (n + 1) d') (n + 1) (bs.flatMap Mb.vals ++ b.vals)) (hg : w.grownBy w' (Value.slice Q n d).ownBlock) : SS base w1 w' Q' (n + 1) d' (bs ++ [b]) vs zss P pv := by
  refine ⟨by rw [List.flatMap_append]; simpa using o, by simp [h.num], fun x hx => ?_, h.len, fun j zs e => ?_, h.apart, fun v hv g hg' x hx => ?_, h.par.kept hg (own_ne h.par h.out (by decide)), h.bel.grown hg h.bel.size (fun q hq => Nat.le_trans h.low (h.out.lt q hq).1), h.low, Nat.le_trans h.lowB hg.size⟩
  · rcases List.mem_append.1 hx with hx | hx
    · exact ⟨BR.keptT (h.bok x hx).1 h.out (by decide) (by decide) hg, Nat.le_trans (h.bok x hx).2 hg.size⟩
    · simp at hx; subst hx; exact ⟨BR.keptT hb h.out (by decide) (by decide) hg, Nat.le_trans hh hg.size⟩
  · obtain ⟨A, c, e1, q⟩ := h.row j zs e
    exact ⟨A, c, e1, q.kept hg (own_ne q.1 h.out (by decide))⟩
  · rcases List.mem_append.1 hx with hx | hx
    · exact h.off v hv g hg' x hx
    · simp at hx; subst hx; exact hlo v hv g hg'
/-- A list grows by a number. -/
theorem SS.push (h : SS base w1 w Q n d bs vs zss P pv) {j : Nat} {A : Option Addr} {c : Nat} {zs zs' : List Int} (hz : zss[j]? = some zs) (hv : vs[j]? = some (.slice A zs.length c)) {A' : Option Addr} {c' : Nat}
    (o : OwnI w' base A' zs'.length c' zs') (hg : w.grownBy w' (Value.slice A zs.length c).ownBlock) (hn : NewBlk w (.slice A zs.length c) (.slice A' zs'.length c')) :
    SS base w1 w' Q n d bs (vs.set j (.slice A' zs'.length c')) (zss.set j zs') P pv := by
  have hvm := List.mem_of_getElem? hv
  obtain ⟨A0, c0, e0, o0⟩ := h.row j zs hz
  obtain ⟨rfl, rfl⟩ : A = A0 ∧ c = c0 := by rw [hv] at e0; simpa using e0
  have hjl := (List.getElem?_eq_some_iff.1 hv).1
  refine ⟨h.out.kept hg (own_ne h.out o0.1 (by decide)), h.num, fun x hx => ⟨BR.keptR (h.bok x hx).1 hg (fun g hg' => h.off _ hvm g hg' x hx), Nat.le_trans (h.bok x hx).2 hg.size⟩, by simp [h.len], fun i us hu => ?_, ?_, fun v hv' g hg' x hx => ?_,
    h.par.kept hg (own_ne h.par o0.1 (by decide)), h.bel.grown hg h.bel.size (fun q hq => Nat.le_trans h.low (o0.block q hq).1), h.low, Nat.le_trans h.lowB hg.size⟩
  · by_cases e : j = i
    · subst e
      rw [List.getElem?_set_self (by have := h.len; omega)] at hu
      injection hu with hu
      subst hu
      exact ⟨A', c', List.getElem?_set_self hjl, o⟩
    · rw [List.getElem?_set_ne e] at hu
      obtain ⟨A2, c2, hv2, hi2⟩ := h.row i us hu
      refine ⟨A2, c2, by rw [List.getElem?_set_ne e]; exact hv2, hi2.kept hg ?_⟩
      have hp := List.pairwise_iff_getElem.1 h.apart
      obtain ⟨l1, e1⟩ := List.getElem?_eq_some_iff.1 hv
      obtain ⟨l2, e2⟩ := List.getElem?_eq_some_iff.1 hv2
      rcases Nat.lt_or_gt_of_ne e with hlt | hlt
      · have := hp j i l1 l2 hlt
        rw [e1, e2] at this
        exact this.symm
      · have := hp i j l2 l1 hlt
        rw [e1, e2] at this
        exact this
  · rw [List.pairwise_iff_getElem]
    intro i i' l1 l2 hlt
    simp only [List.length_set] at l1 l2
    have hp := List.pairwise_iff_getElem.1 h.apart
    have ej := (List.getElem?_eq_some_iff.1 hv).2
    have st : ∀ u ∈ vs, Apart (.slice A zs.length c) u → Apart (.slice A' zs'.length c') u := fun u hu a => apart_step a hn (h.tops u hu)
    rw [List.getElem_set, List.getElem_set]
    split
    · rename_i e
      subst e
      rw [if_neg (by omega)]
      exact st _ (List.getElem_mem l2) (ej ▸ hp j i' l1 l2 hlt)
    · split
      · rename_i e
        subst e
        exact (st _ (List.getElem_mem l1) (ej ▸ (hp i j l1 l2 hlt).symm)).symm
      · exact hp i i' l1 l2 hlt
  · rcases List.mem_or_eq_of_mem_set hv' with hv' | rfl
    · exact h.off v hv' g hg' x hx
    · rcases hn with e | ⟨q, e, hq⟩
      · exact h.off _ hvm g (e ▸ hg') x hx
      · rw [e] at hg'
        injection hg' with hg'
        have := (h.bok x hx).2
        omega
theorem SS.own (h : SS base w1 w Q n d bs vs zss P pv) {j m c : Nat} {A : Option Addr} {zs : List Int} (hz : zss[j]? = some zs) (hv : vs[j]? = some (.slice A m c)) : zs.length = m ∧ OwnI w base A m c zs := by
  obtain ⟨A', c', e, o⟩ := h.row j zs hz
  rw [hv] at e
  simp only [Option.some.injEq, Value.slice.injEq] at e
  obtain ⟨rfl, rfl, rfl⟩ := e
  exact ⟨rfl, o⟩
theorem SS.push' (h : SS base w1 w Q n d bs vs zss P pv) {j m c m' : Nat} {A : Option Addr} {zs zs' : List Int} (hz : zss[j]? = some zs) (hv : vs[j]? = some (.slice A m c)) {A' : Option Addr} {c' : Nat}
    (o : OwnI w' base A' m' c' zs') (hg : w.grownBy w' (Value.slice A m c).ownBlock) (hn : NewBlk w (.slice A m c) (.slice A' m' c')) :
    SS base w1 w' Q n d bs (vs.set j (.slice A' m' c')) (zss.set j zs') P pv := by
  obtain ⟨rfl, _⟩ := h.own hz hv
  obtain rfl := o.len
  exact h.push hz hv o hg hn
/-- A list's header is written. -/
theorem SS.store (h : SS base w1 w Q n d bs vs zss P pv) (k : Nat) (u : Value) : SS base w1 (w.setCell ⟨P, k, none⟩ u) Q n d bs vs zss P (pv.set k u) := by
  have st : (w.setCell ⟨P, k, none⟩ u).ownsRow base 29 1 (.slice (some ⟨P, 0, none⟩) 3 3) 3 (pv.set k u) ∧ w.grownBy (w.setCell ⟨P, k, none⟩ u) (some P) := World.ownsRow.stored h.par k u
  obtain ⟨s1, s2⟩ := st
  exact ⟨h.out.kept s2 (own_ne h.out h.par (by decide)), h.num, fun x hx => ⟨BR.keptT (h.bok x hx).1 h.par (by decide) (by decide) s2, Nat.le_trans (h.bok x hx).2 s2.size⟩, h.len, fun j zs e => by obtain ⟨A, c, e1, q⟩ := h.row j zs e; exact ⟨A, c, e1, q.kept s2 (own_ne q.1 h.par (by decide))⟩, h.apart, h.off, s1,
    h.bel.grown s2 h.bel.size (fun q hq => by injection hq with hq; subst hq; exact Nat.le_trans h.low (h.par.lt P rfl).1), h.low, Nat.le_trans h.lowB s2.size⟩
theorem SS.cell (h : SS base w1 w Q n d bs vs zss P pv) {k : Nat} {u : Value} (hk : pv[k]? = some u) : w.cell? ⟨P, k, none⟩ = some u ∧ w.frozen? ⟨P, k, none⟩ = false := by
  have e := World.ownsRow.cells h.par (g := P) rfl k u hk
  rw [Addr.add_lit, Nat.zero_add] at e
  exact ⟨e, World.ownsRow.frozenAt h.par k⟩
theorem SS.drew (h : SS base w1 w Q n d bs vs zss P pv) : SS base w1 w.drew Q n d bs vs zss P pv :=
  ⟨h.out, h.num, fun x hx => ⟨⟨(h.bok x hx).1.pb.drew, (h.bok x hx).1.t0, (h.bok x hx).1.t1, (h.bok x hx).1.t2⟩, (h.bok x hx).2⟩, h.len, fun j zs e => by obtain ⟨A, c, e1, o⟩ := h.row j zs e; exact ⟨A, c, e1, o.drew⟩, h.apart, h.off, h.par, ⟨h.bel.os, h.bel.tape, h.bel.output, h.bel.size, h.bel.block⟩, h.low, h.lowB⟩
/-- The ballots, read. -/
theorem SS.bals (h : SS base w1 w Q n d bs vs zss P pv) : Bals w Q n d (bs.map Mb.bal) := by
  rcases h.out.2 with ⟨e, e0⟩ | ⟨g, cap, cur, hv', hb, hg, hnc, hcm, _⟩
  · simp only [Value.slice.injEq] at e
    obtain ⟨rfl, rfl, rfl⟩ := e
    exact ⟨by simp [h.num], Nat.le_refl _, by unfold maxLen; omega, fun hn => absurd hn (by omega)⟩
  · simp only [Value.slice.injEq, true_and] at hv'
    obtain ⟨rfl, rfl⟩ := hv'
    refine ⟨by simp [h.num], hnc, hcm, fun hn => ⟨g, 0, rfl, (Array.getElem?_eq_some_iff.1 hg).1, fun j q hq => ?_⟩⟩
    rw [List.getElem?_map] at hq
    obtain ⟨b, hbj, rfl⟩ := Option.map_eq_some_iff.1 hq
    obtain ⟨x1, x2, x3⟩ := mvals_at hbj
    have ok := (h.bok b (List.mem_of_getElem? hbj)).1
    have k1 := World.ownsRow.cells h.out (g := g) rfl _ _ x1
    have k2 := World.ownsRow.cells h.out (g := g) rfl _ _ x2
    have k3 := World.ownsRow.cells h.out (g := g) rfl _ _ x3
    rw [Addr.add_lit, Nat.zero_add] at k1 k2 k3
    rw [Nat.zero_add]
    exact ⟨b.A, _, b.c, b.B, _, b.d, k1, k2, k3, ok.pb.own.ints, ok.pb.bps⟩
end
/-- A part of a list of rows. -/
theorem Rws.sub {w : World} {b off n c : Nat} {zss : List (List Int)} (h : Rws w (some ⟨b, off, none⟩) n c zss) (lo k : Nat) (hk : lo + k ≤ n) : Rws w (some ⟨b, off + lo, none⟩) k (c - lo) ((zss.drop lo).take k) := by
  obtain ⟨h1, h2, h3, h5⟩ := h
  refine ⟨by simp; omega, by omega, by omega, fun hn => ?_⟩
  obtain ⟨b', off', hA, hb, hc⟩ := h5 (by omega)
  simp only [Option.some.injEq, Addr.mk.injEq, and_true] at hA
  obtain ⟨rfl, rfl⟩ := hA
  refine ⟨b, off + lo, rfl, hb, fun j zs hj => ?_⟩
  have hjk : j < k := by have := (List.getElem?_eq_some_iff.1 hj).1; simp at this; omega
  rw [List.getElem?_take_of_lt hjk, List.getElem?_drop] at hj
  obtain ⟨A', c', e1, e2⟩ := hc (lo + j) zs hj
  exact ⟨A', c', by rw [Nat.add_assoc]; exact e1, e2⟩
theorem r8Sum_any (A : Option Addr) (n c : Nat) (zs : List Int) (w : World) (h : Ints .i64 w A n c zs) (hs : ∀ k, -4611686018427387904 ≤ (zs.take k).sum ∧ (zs.take k).sum ≤ 4611686018427387904) :
    Calls Try.prog 31 #[.slice A n c] w fun e w' => e = .returned (.int .i64 zs.sum) ∧ w = w' := by
  have hm := h.short
  have hl := Lib.hid h.1
  have HS := Lib.hid hs
  clear hs
  go_enter Try.func31, Try.ntmps31
  go_wp2_with fail
  go_loop [3, 4] (fun s i => ∃ (k : Nat) (x : Int), k ≤ n ∧ i = .int .i64 k ∧ s = .int .i64 x ∧ x = (zs.take k).sum) (fun _ i => n - (intOf i).toNat)
  case atStart => exact ⟨0, 0, Nat.zero_le _, rfl, rfl, rfl⟩
  case round =>
    obtain ⟨k, x, hk, rfl, rfl, hx⟩ := hrel
    have HX := Lib.hid hx
    have b1 := HS.out k
    have b2 := HS.out (k + 1)
    rw [← hx] at b1
    clear hx
    by_cases hlt : k < n
    · obtain ⟨b, off, z, rfl, hb, hcell, z1, z2, hz⟩ := h.at hlt
      have e : (zs.take (k + 1)).sum = x + z := by rw [take_snoc' hz.out, List.sum_append, ← HX.out]; simp
      rw [e] at b2
      have ew : IntKind.i64.wrap (x + z) = x + z := IntWalk.i64_in _ (by omega)
      have HE := Lib.hid e.symm
      clear e
      go_wp2_with fail
      go_round
      case rel => exact ⟨k + 1, x + z, by omega, by go_num, by go_num, HE.out⟩
      case measure => simp [intOf]; omega
    · obtain rfl : n = k := by omega
      have e : x = zs.sum := by rw [HX.out, List.take_of_length_le (by rw [hl.out]; exact Nat.le_refl _)]
      have HE := Lib.hid e
      clear e
      go_wp2_with fail
      go_ret
      exact ⟨ret_int HE.out, rfl⟩
/-- append of a ballot. -/
theorem app_bal_at {ops : Array Oper} {rest : List Oper} {o : Oper} {a : Act} {Q : Exit → Act → World → Prop} (w : World) (hgd : o.guard = none) (s x : Operand)
    (ho : o.op = .call { callee := .builtin .append, args := #[s, x], argTypes := #[45, 45] }) (base : Nat)
    (A : Option Addr) (n d : Nat) (hv : List Value) (hs : a.eval s = .slice A n d) (hown : w.ownsRow base 48 3 (.slice A n d) n hv)
    (s1 s2 s3 : Value) (o1 : s1.oneCell' = true) (o2 : s2.oneCell' = true) (o3 : s3.oneCell' = true)
    (hx : a.eval x = .slice (some ⟨w.heap.size, 0, none⟩) 1 1) (hn : n ≤ 1099511627) (hbase : base ≤ w.heap.size)
    (h : ∀ A' d' w2, w2.ownsRow base 48 3 (.slice A' (n + 1) d') (n + 1) (hv ++ [s1, s2, s3]) → (w.alloc (.cells #[s1, s2, s3] 48)).grownBy w2 (Value.slice A n d).ownBlock → wpList Try.prog ops Q rest (a.put o.dst (.slice A' (n + 1) d')) w2) :
    wpList Try.prog ops Q (o :: rest) a (w.alloc (.cells #[s1, s2, s3] 48)) := by
  obtain ⟨i0, hi, hz0, hz1, hz2⟩ := info_parts info_bal
  have C := Cs.new w [s1, s2, s3] 48
  refine wpList_append_own_at _ hgd s x _ ho base _ i0 _ 3 56 Try.underlying45 hi hz0 hz1 hz2 rfl (by decide) _ n hv hs (own_below hown (bel_alloc _ _)) ⟨w.heap.size, 0, none⟩ 1 1 [s1, s2, s3] hx rfl ?_ (by intro u hu; simp at hu; rcases hu with rfl | rfl | rfl <;> assumption) (by unfold maxLen; omega) (by omega) (by simp; omega) ?_
  · intro j u hj
    match j, hj with
    | 0, hj => simp at hj; subst hj; rw [Addr.add_lit]; exact C.cell 0 rfl
    | 1, hj => simp at hj; subst hj; rw [Addr.add_lit]; exact C.cell 1 rfl
    | 2, hj => simp at hj; subst hj; rw [Addr.add_lit]; exact C.cell 2 rfl
  · intro v' w2 h2 h3 _ h5
    rcases h2.2 with ⟨rfl, h0⟩ | ⟨g, cap, cur, rfl, hr⟩
    · exact absurd h0 (by omega)
    · exact h _ _ w2 h2 h3
/-- The beginning. -/
theorem SS.start (w1 : World) {N : Nat} (hN : w1.heap.size = N) : SS N w1 (((((((w1.alloc (.cells #[] 48)).alloc (.cells #[] 2)).alloc (.cells #[] 2)).alloc (.cells #[] 2)).alloc (.cells #[] 2)).alloc (.cells #[] 2)).alloc (.cells #[.slice (some ⟨N + 3, 0, none⟩) 0 0, .slice (some ⟨N + 4, 0, none⟩) 0 0, .slice (some ⟨N + 5, 0, none⟩) 0 0] 29))
    (some ⟨N, 0, none⟩) 0 0 [] [.slice (some ⟨N + 1, 0, none⟩) 0 0, .slice (some ⟨N + 2, 0, none⟩) 0 0, .slice (some ⟨N + 3, 0, none⟩) 0 0, .slice (some ⟨N + 4, 0, none⟩) 0 0, .slice (some ⟨N + 5, 0, none⟩) 0 0] [[], [], [], [], []] (N + 6) [.slice (some ⟨N + 3, 0, none⟩) 0 0, .slice (some ⟨N + 4, 0, none⟩) 0 0, .slice (some ⟨N + 5, 0, none⟩) 0 0] := by
  subst hN
  have lit : ∀ (w : World) (m : Nat), w.heap.size = m → w1.heap.size ≤ m → OwnI (w.alloc (.cells #[] 2)) w1.heap.size (some ⟨m, 0, none⟩) 0 0 [] := fun w m e hm => by
    subst e; exact (ownI_lit w).mono hm
  have r1 := lit (w1.alloc (.cells #[] 48)) (w1.heap.size + 1) (by simp) (by omega)
  have r2 := lit ((w1.alloc (.cells #[] 48)).alloc (.cells #[] 2)) (w1.heap.size + 2) (by simp) (by omega)
  have r3 := lit (((w1.alloc (.cells #[] 48)).alloc (.cells #[] 2)).alloc (.cells #[] 2)) (w1.heap.size + 3) (by simp) (by omega)
  have r4 := lit ((((w1.alloc (.cells #[] 48)).alloc (.cells #[] 2)).alloc (.cells #[] 2)).alloc (.cells #[] 2)) (w1.heap.size + 4) (by simp) (by omega)
  have r5 := lit (((((w1.alloc (.cells #[] 48)).alloc (.cells #[] 2)).alloc (.cells #[] 2)).alloc (.cells #[] 2)).alloc (.cells #[] 2)) (w1.heap.size + 5) (by simp) (by omega)
  have q0 := World.ownsRow_lit (base := w1.heap.size) (e := 48) (size := 3) w1 #[] 0 (Nat.le_refl _) (by unfold maxLen; omega) rfl
  have q6 := World.ownsRow_lit (base := w1.heap.size) (e := 29) (size := 1) ((((((w1.alloc (.cells #[] 48)).alloc (.cells #[] 2)).alloc (.cells #[] 2)).alloc (.cells #[] 2)).alloc (.cells #[] 2)).alloc (.cells #[] 2)) #[.slice (some ⟨w1.heap.size + 3, 0, none⟩) 0 0, .slice (some ⟨w1.heap.size + 4, 0, none⟩) 0 0, .slice (some ⟨w1.heap.size + 5, 0, none⟩) 0 0] 3 (by simp; omega) (by unfold maxLen; omega) rfl
  refine ⟨?_, rfl, by simp, rfl, fun j zs e => ?_, ?_, by simp, ?_, ?_, Nat.le_refl _, by simp; omega⟩
  · exact own_below q0 (bel_trans (bel_alloc _ _) (bel_trans (bel_alloc _ _) (bel_trans (bel_alloc _ _) (bel_trans (bel_alloc _ _) (bel_trans (bel_alloc _ _) (bel_alloc _ _))))))
  · match j, e with
    | 0, e => simp at e; subst e; exact ⟨_, _, rfl, ((((r1.alloc _).alloc _).alloc _).alloc _).alloc _⟩
    | 1, e => simp at e; subst e; exact ⟨_, _, rfl, (((r2.alloc _).alloc _).alloc _).alloc _⟩
    | 2, e => simp at e; subst e; exact ⟨_, _, rfl, ((r3.alloc _).alloc _).alloc _⟩
    | 3, e => simp at e; subst e; exact ⟨_, _, rfl, (r4.alloc _).alloc _⟩
    | 4, e => simp at e; subst e; exact ⟨_, _, rfl, r5.alloc _⟩
    | j + 5, e => simp at e
  · simp [Apart, Value.ownBlock]
  · simpa using q6
  · exact bel_trans (bel_alloc _ _) (bel_trans (bel_alloc _ _) (bel_trans (bel_alloc _ _) (bel_trans (bel_alloc _ _) (bel_trans (bel_alloc _ _) (bel_trans (bel_alloc _ _) (bel_alloc _ _))))))
end Go.Proofs.Ytnjnngnagdhaiaa
