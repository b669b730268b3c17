/- The order of Phragmen: mathematics. -/
import Derived.Test.YtiodbjfchfmlcaaEl2
namespace Go.Proofs.Ytiodbjfchfmlcaa
set_option linter.unusedVariables false
set_option linter.unusedSimpArgs false
/-- What the voters paid last: purchases, the last one first. -/
def snc (ap : List (List Int)) : List (Nat × Int) → Nat → Int
  | [], _ => 0
  | (x, t) :: R, v => if sup1 ap (x : Int) v then t else snc ap R v
/-- The sum over voters. -/
def sumV (f : Nat → Int) (l : List Nat) : Int := (l.map f).sum
theorem sumV_nil (f : Nat → Int) : sumV f [] = 0 := rfl
theorem sumV_cons (f : Nat → Int) (a : Nat) (l : List Nat) : sumV f (a :: l) = f a + sumV f l := by unfold sumV; simp
theorem sumV_snoc (f : Nat → Int) (l : List Nat) (a : Nat) : sumV f (l ++ [a]) = sumV f l + f a := by unfold sumV; simp
theorem sumV_le {f g : Nat → Int} {l : List Nat} (h : ∀ a ∈ l, f a ≤ g a) : sumV f l ≤ sumV g l := by
  induction l with
  | nil => exact Int.le_refl _
  | cons a l ih =>
    rw [sumV_cons, sumV_cons]
    have := h a (List.mem_cons_self ..)
    have := ih (fun b hb => h b (List.mem_cons_of_mem _ hb))
    omega
theorem sumV_mul (f : Nat → Int) (k : Int) (l : List Nat) : sumV (fun v => f v * k) l = sumV f l * k := by
  induction l with
  | nil => simp [sumV]
  | cons a l ih => rw [sumV_cons, sumV_cons, ih, Int.add_mul]
theorem sumV_const (c : Int) (l : List Nat) : sumV (fun _ => c) l = c * l.length := by
  induction l with
  | nil => simp [sumV]
  | cons a l ih => rw [sumV_cons, ih, List.length_cons]; push_cast; rw [Int.mul_add]; omega
theorem sumV_congr {f g : Nat → Int} {l : List Nat} (h : ∀ a ∈ l, f a = g a) : sumV f l = sumV g l := by
  unfold sumV
  rw [List.map_congr_left h]
theorem sumV_nonneg {f : Nat → Int} {l : List Nat} (h : ∀ a ∈ l, 0 ≤ f a) : 0 ≤ sumV f l := by
  have := sumV_le (f := fun _ => 0) (g := f) h
  rw [sumV_const] at this
  omega
def scl (k : Int) (R : List (Nat × Int)) : List (Nat × Int) := R.map fun p => (p.1, p.2 * k)
theorem snc_scl (ap : List (List Int)) (k : Int) (R : List (Nat × Int)) (v : Nat) : snc ap (scl k R) v = snc ap R v * k := by
  induction R with
  | nil => simp [snc, scl]
  | cons p R ih =>
    obtain ⟨x, t⟩ := p
    show (if sup1 ap (x : Int) v then t * k else snc ap (scl k R) v) = (if sup1 ap (x : Int) v then t else snc ap R v) * k
    split
    · rfl
    · exact ih
/-- The time at which the last project was bought. -/
def lastT : List (Nat × Int) → Int
  | [] => 0
  | (_, t) :: _ => t
theorem lastT_scl (k : Int) (R : List (Nat × Int)) : lastT (scl k R) = lastT R * k := by
  cases R with
  | nil => simp [lastT, scl]
  | cons p R => obtain ⟨x, t⟩ := p; rfl
/-- The numerator of the time at which a project could be bought. -/
def atN (cs : List Int) (ap : List (List Int)) (D : Int) (R : List (Nat × Int)) (x : Nat) : Int := cs.getD x 0 * D + sumV (snc ap R) (supN ap (x : Int) ap.length)
def sz (ap : List (List Int)) (x : Nat) : Int := ((supN ap (x : Int) ap.length).length : Int)
theorem atN_scl (cs : List Int) (ap : List (List Int)) (D k : Int) (R : List (Nat × Int)) (x : Nat) : atN cs ap (D * k) (scl k R) x = atN cs ap D R x * k := by
  unfold atN
  rw [show sumV (snc ap (scl k R)) (supN ap (x : Int) ap.length) = sumV (fun v => snc ap R v * k) (supN ap (x : Int) ap.length) from sumV_congr fun v _ => snc_scl ap k R v, sumV_mul, Int.add_mul, Int.mul_assoc]
/-- Purchases that are those of Phragmen, over a denominator. -/
inductive PhOk (cs : List Int) (ap : List (List Int)) (D : Int) : List (Nat × Int) → Prop
  | nil : PhOk cs ap D []
  | cons {x : Nat} {t : Int} {R : List (Nat × Int)} (hx : x < cs.length) (hs : 0 < sz ap x) (ht : t * sz ap x = atN cs ap D R x) (hl : lastT R ≤ t) (h : PhOk cs ap D R) : PhOk cs ap D ((x, t) :: R)
theorem PhOk.scl {cs : List Int} {ap : List (List Int)} {D k : Int} {R : List (Nat × Int)} (hk : 0 ≤ k) (h : PhOk cs ap D R) : PhOk cs ap (D * k) (scl k R) := by
  induction h with
  | nil => exact .nil
  | @cons x t R hx hs ht hl h ih =>
    refine .cons hx hs ?_ ?_ ih
    · show t * k * sz ap x = atN cs ap (D * k) (Ytiodbjfchfmlcaa.scl k R) x
      rw [atN_scl, ← ht]; ac_rfl
    · show lastT (Ytiodbjfchfmlcaa.scl k R) ≤ t * k
      rw [lastT_scl]
      exact Int.mul_le_mul_of_nonneg_right hl hk
theorem PhOk.last {cs : List Int} {ap : List (List Int)} {D : Int} {R : List (Nat × Int)} (h : PhOk cs ap D R) : 0 ≤ lastT R := by
  induction h with
  | nil => exact Int.le_refl _
  | cons hx hs ht hl h ih => exact Int.le_trans ih hl
theorem PhOk.snc {cs : List Int} {ap : List (List Int)} {D : Int} {R : List (Nat × Int)} (h : PhOk cs ap D R) (v : Nat) : 0 ≤ snc ap R v ∧ snc ap R v ≤ lastT R := by
  induction h with
  | nil => exact ⟨Int.le_refl _, Int.le_refl _⟩
  | @cons x t R hx hs ht hl h ih =>
    have l := h.last
    show 0 ≤ (if sup1 ap (x : Int) v then t else Ytiodbjfchfmlcaa.snc ap R v) ∧ (if sup1 ap (x : Int) v then t else Ytiodbjfchfmlcaa.snc ap R v) ≤ t
    split
    · omega
    · omega
/-- The bound of the times: each purchase adds at most 60. -/
theorem PhOk.bound {cs : List Int} {ap : List (List Int)} {D : Int} {R : List (Nat × Int)} (hD : 1 ≤ D) (hc : ∀ c ∈ cs, 1 ≤ c ∧ c ≤ 60) (h : PhOk cs ap D R) : lastT R ≤ 60 * R.length * D := by
  induction h with
  | nil => simp [lastT]
  | @cons x t R hx hs ht hl h ih =>
    show t ≤ 60 * ((R.length + 1 : Nat) : Int) * D
    have h1 : sumV (Ytiodbjfchfmlcaa.snc ap R) (supN ap (x : Int) ap.length) ≤ lastT R * sz ap x := by
      have := sumV_le (f := Ytiodbjfchfmlcaa.snc ap R) (g := fun _ => lastT R) (l := supN ap (x : Int) ap.length) (fun v _ => (h.snc v).2)
      rw [sumV_const] at this
      exact this
    have hcx : cs.getD x 0 ≤ 60 ∧ 1 ≤ cs.getD x 0 := by
      rw [List.getD_eq_getElem?_getD, List.getElem?_eq_getElem hx]
      have := hc cs[x] (List.getElem_mem hx)
      exact ⟨this.2, this.1⟩
    have h2 : cs.getD x 0 * D ≤ 60 * D := Int.mul_le_mul_of_nonneg_right hcx.1 (by omega)
    have h3 : 60 * D ≤ 60 * D * sz ap x := by
      have := Int.mul_le_mul_of_nonneg_left (show 1 ≤ sz ap x by omega) (show 0 ≤ 60 * D by omega)
      rw [Int.mul_one] at this
      exact this
    have h4 : t * sz ap x ≤ (60 * D + lastT R) * sz ap x := by
      rw [ht, Int.add_mul]
      unfold atN
      omega
    have h5 := Int.le_of_mul_le_mul_right h4 hs
    have e : 60 * ((R.length + 1 : Nat) : Int) * D = 60 * (R.length : Int) * D + 60 * D := by
      push_cast
      rw [Int.mul_add, Int.add_mul, Int.mul_one]
    rw [e]
    omega
/-- Nobody who has not been looked at could have been bought earlier. -/
def Late (cs : List Int) (ap : List (List Int)) (D : Int) (done : List Nat) (R : List (Nat × Int)) : Prop :=
  ∀ x, x < cs.length → x ∉ done → 0 < sz ap x → lastT R * sz ap x ≤ atN cs ap D R x
theorem late_nil {cs : List Int} {ap : List (List Int)} {D : Int} (hD : 1 ≤ D) (hc : ∀ c ∈ cs, 1 ≤ c ∧ c ≤ 60) : Late cs ap D [] [] := by
  intro x hx _ _
  have h1 : 1 ≤ cs.getD x 0 := by
    rw [List.getD_eq_getElem?_getD, List.getElem?_eq_getElem hx]
    exact (hc cs[x] (List.getElem_mem hx)).1
  have h2 : 0 ≤ cs.getD x 0 * D := Int.mul_nonneg (by omega) (by omega)
  have h3 : sumV (snc ap []) (supN ap (x : Int) ap.length) = 0 := by
    have := sumV_const 0 (supN ap (x : Int) ap.length)
    rw [Int.zero_mul] at this
    exact this
  unfold atN
  rw [h3]
  show 0 * _ ≤ _
  omega
/-- The least of all candidates. -/
def Least (cs : List Int) (ap : List (List Int)) (D : Int) (done : List Nat) (R : List (Nat × Int)) (k b : Nat) : Prop :=
  b < k ∧ b ∉ done ∧ 0 < sz ap b ∧ ∀ x, x < k → x ∉ done → 0 < sz ap x → atN cs ap D R b * sz ap x ≤ atN cs ap D R x * sz ap b
theorem ph_skip {cs : List Int} {ap : List (List Int)} {D : Int} {done : List Nat} {R : List (Nat × Int)} (b : Nat) (h : Late cs ap D done R) : Late cs ap D (done ++ [b]) R :=
  fun x hx hn hs => h x hx (fun hh => hn (List.mem_append_left _ hh)) hs
theorem sup_in {ap : List (List Int)} {x v : Nat} (h : v ∈ supN ap (x : Int) ap.length) : sup1 ap (x : Int) v = true := (supN_mem h).2
/-- A purchase. -/
theorem ph_buy {cs : List Int} {ap : List (List Int)} {D : Int} {done : List Nat} {R : List (Nat × Int)} {b : Nat} (hD : 1 ≤ D) (hp : PhOk cs ap D R) (hl : Late cs ap D done R) (hb : Least cs ap D done R cs.length b) :
    PhOk cs ap (D * sz ap b) ((b, atN cs ap D R b) :: scl (sz ap b) R) ∧ Late cs ap (D * sz ap b) (done ++ [b]) ((b, atN cs ap D R b) :: scl (sz ap b) R) := by
  obtain ⟨h1, h2, h3, h4⟩ := hb
  have hlb := hl b h1 h2 h3
  refine ⟨.cons h1 h3 ?_ ?_ (hp.scl (by omega)), fun x hx hn hs => ?_⟩
  · rw [atN_scl]
  · rw [lastT_scl]; exact hlb
  · have hxd : x ∉ done := fun hh => hn (List.mem_append_left _ hh)
    have a1 := h4 x hx hxd hs
    show atN cs ap D R b * sz ap x ≤ _
    refine Int.le_trans a1 ?_
    rw [← atN_scl]
    unfold atN
    have : sumV (snc ap (scl (sz ap b) R)) (supN ap (x : Int) ap.length) ≤ sumV (snc ap ((b, atN cs ap D R b) :: scl (sz ap b) R)) (supN ap (x : Int) ap.length) := by
      refine sumV_le fun v _ => ?_
      show snc ap (scl (sz ap b) R) v ≤ if sup1 ap (b : Int) v then atN cs ap D R b else snc ap (scl (sz ap b) R) v
      split
      · rw [snc_scl]
        have := Int.mul_le_mul_of_nonneg_right (hp.snc v).2 (show 0 ≤ sz ap b by omega)
        omega
      · exact Int.le_refl _
    unfold atN at this
    omega
end Go.Proofs.Ytiodbjfchfmlcaa
