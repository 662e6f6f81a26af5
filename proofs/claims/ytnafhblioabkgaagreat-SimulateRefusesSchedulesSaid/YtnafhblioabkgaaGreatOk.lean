/- What holds of the numbers of a schedule without an error; which sources lie. No program in sight. -/
import Derived.Test.YtnafhblioabkgaaGreatFits
namespace Go.Proofs.YtnafhblioabkgaaGreat

structure Stp.ok (n : Nat) (p : Int) (x : Stp) : Prop where
  s0 : 0 ≤ x.src
  s1 : x.src < n
  l : ∀ v ∈ x.lens, 0 ≤ v ∧ v ≤ 1125899906842624
  w2 : -1125899906842624 ≤ x.w2 ∧ x.w2 ≤ 1125899906842624
  w3 : -1125899906842624 ≤ x.w3 ∧ x.w3 ≤ 1125899906842624
structure Sch.ok (s : Sch) : Prop where
  n0 : 1 ≤ s.errs.length
  n1 : s.errs.length ≤ 8
  m : s.steps.length ≤ 64
  a : -1125899906842624 ≤ s.start ∧ s.start ≤ 1125899906842624
  b : -1125899906842624 ≤ s.loc ∧ s.loc ≤ 1125899906842624
  p0 : 0 ≤ s.ppb
  p1 : s.ppb ≤ 1000000
  i0 : 0 ≤ s.aim
  i1 : s.aim ≤ 1000
  f0 : 0 ≤ s.liars
  f1 : 2 * s.liars < s.errs.length
  e : ∀ v ∈ s.errs, 0 ≤ v ∧ v ≤ 1125899906842624
  st : ∀ x ∈ s.steps, x.ok s.errs.length s.ppb
theorem stepM_ok {n : Nat} {p : Int} {x : Stp} (h : stepM n p x = 0) : x.ok n p := by
  unfold stepM at h
  split at h
  · omega
  · next h1 =>
    simp only [nearB, Bool.or_eq_true, Bool.not_eq_true', not_or, decide_eq_true_eq, Bool.and_eq_false_iff, decide_eq_false_iff_not, Bool.not_eq_false] at h1
    obtain ⟨a, b, c, d, e⟩ := h1
    refine ⟨by omega, by omega, fun v hv => ?_, by omega, by omega⟩
    have := List.all_eq_true.1 c v hv
    simpa [lenB] using this
theorem stepsM_ok {n : Nat} {p : Int} (l : List Stp) (h : stepsM n p l = 0) : ∀ x ∈ l, x.ok n p := by
  induction l with
  | nil => intro x hx; cases hx
  | cons y r ih =>
    unfold stepsM at h
    split at h
    · next h1 =>
      intro x hx
      rcases List.mem_cons.1 hx with rfl | hx
      · exact stepM_ok h1
      · exact ih h x hx
    · next h1 => exact absurd h h1
theorem Sch.code_ok {s : Sch} (h : s.code = 0) : s.ok := by
  unfold Sch.code at h
  split at h
  · omega
  · next h0 =>
    split at h
    · omega
    · next h1 =>
      simp only [nearB, Bool.or_eq_true, Bool.not_eq_true', not_or, decide_eq_true_eq, Bool.and_eq_false_iff, decide_eq_false_iff_not, Bool.not_eq_false] at h1
      obtain ⟨a, b, c, d, e, f, g, i, j, k⟩ := h1
      refine ⟨by omega, by omega, by omega, by omega, by omega, by omega, by omega, by omega, by omega, by omega, by omega, fun v hv => ?_, stepsM_ok _ h⟩
      have := List.all_eq_true.1 k v hv
      simpa [lenB] using this

/-- Whether a step is a lie of source i, whose greatest error is e. -/
def lieP (i e : Int) (x : Stp) : Bool := decide (x.src = i) && (decide (e < max x.w2 (-x.w2)) || decide (e < max x.w3 (-x.w3)))
def liesL (l : List Stp) : List Int → Int → List Int
  | [], _ => []
  | e :: r, i => if l.any (lieP i e) then i :: liesL l r (i + 1) else liesL l r (i + 1)
def Sch.lies (s : Sch) : List Int := if s.code = 0 then liesL s.steps s.errs 0 else []
theorem liesL_len (l : List Stp) (r : List Int) : ∀ i, (liesL l r i).length ≤ r.length := by
  induction r with
  | nil => intro i; simp [liesL]
  | cons e r ih =>
    intro i
    unfold liesL
    have := ih (i + 1)
    split <;> simp <;> omega
end Go.Proofs.YtnafhblioabkgaaGreat
