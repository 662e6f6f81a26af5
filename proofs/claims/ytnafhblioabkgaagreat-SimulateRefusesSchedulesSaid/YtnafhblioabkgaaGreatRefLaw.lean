/- The statement about what was made and changed in one number: Check, Lies and Run return what is specified. -/
import Derived.Test.YtnafhblioabkgaaGreatRunsLaw
namespace Go.Proofs.YtnafhblioabkgaaGreat
open Go.RowKit
set_option linter.unusedVariables false

/-! A number's place, modulo n. -/
def wI (v n : Int) : Int := if v.tmod n < 0 then v.tmod n + n else v.tmod n
theorem wI_in (v : Int) {n : Int} (h0 : 0 < n) : 0 ≤ wI v n ∧ wI v n < n := by
  have a1 := Int.tmod_lt_of_pos v h0
  have a2 := Int.lt_tmod_of_pos v h0
  unfold wI
  split <;> omega
theorem Within_eq (v n : Int) (w : World) (h0 : 0 < n) (h1 : n ≤ 4611686018427387904) :
    Calls Tryz.prog 18 #[.int .i64 v, .int .i64 n] w fun e w' => e = .returned (.int .i64 (wI v n)) ∧ w = w' := by
  have a1 := Int.tmod_lt_of_pos v h0
  have a2 := Int.lt_tmod_of_pos v h0
  have a3 : ¬ n = 0 := by omega
  have a4 : (n == 0) = false := by simp; omega
  obtain ⟨R, hR⟩ : ∃ R, wI v n = R := ⟨_, rfl⟩
  have hR' := hR
  unfold wI at hR'
  rw [hR]
  generalize hm : v.tmod n = m at *
  by_cases h : m < 0
  · rw [if_pos h] at hR'
    have HR := Lib.hid hR'
    clear hR' hR
    have t : decide (m < 0) = true := by simp [h]
    have e : IntKind.i64.wrap (m + n) = m + n := IntWalk.i64_in _ (by omega)
    go_enter Tryz.func18, Tryz.ntmps18
    go_wp2
    go_ret
    exact ⟨ret_int HR.out, rfl⟩
  · rw [if_neg h] at hR'
    have HR := Lib.hid hR'
    clear hR' hR
    have t : decide (m < 0) = false := by simp; omega
    go_enter Tryz.func18, Tryz.ntmps18
    go_wp2
    go_ret
    exact ⟨ret_int HR.out, rfl⟩

/-! Cells of a schedule that are set. -/
theorem flat_put {α : Type} {enc : α → List Value} {k : Nat} (hk : ∀ x, (enc x).length = k) {j : Nat} (hj : j < k) {x y : α} {u : Value} (hy : enc y = (enc x).set j u) : ∀ (l : List α) (i : Nat), l[i]? = some x → (l.flatMap enc).set (i * k + j) u = (l.set i y).flatMap enc := by
  intro l
  induction l with
  | nil => intro i h; simp at h
  | cons z r ih =>
    intro i h
    cases i with
    | zero =>
      simp only [List.getElem?_cons_zero, Option.some.injEq] at h
      subst h
      rw [List.flatMap_cons, List.set_append, if_pos (by rw [hk]; omega), List.set_cons_zero, List.flatMap_cons, hy, Nat.zero_mul, Nat.zero_add]
    | succ i =>
      simp only [List.getElem?_cons_succ] at h
      rw [List.flatMap_cons, List.set_append, if_neg (by rw [hk, Nat.succ_mul]; omega), List.set_cons_succ, List.flatMap_cons, hk, show (i + 1) * k + j - k = i * k + j by rw [Nat.succ_mul]; omega, ih i h]
theorem own_set {w : World} {base : Nat} {e : TypeId} {size n c g : Nat} {xs : List Value} (h : w.ownsRow base e size (.slice (some ⟨g, 0, none⟩) n c) n xs) (k : Nat) (u : Value) : (w.setCell ⟨g, k, none⟩ u).ownsRow base e size (.slice (some ⟨g, 0, none⟩) n c) n (xs.set k u) := by
  obtain ⟨hl, h⟩ := h
  refine ⟨by rw [List.length_set]; exact hl, ?_⟩
  rcases h with ⟨h, _⟩ | ⟨g', cap, cur, e1, hb, hg, h1, h2, h3, h4⟩
  · cases h
  · cases e1
    exact .inr ⟨g, c, cur.setIfInBounds k u, rfl, hb, Blk.set hg k u, h1, h2, by simpa using h3, by rw [Array.toList_setIfInBounds, List.take_set, h4]⟩
theorem own_other {w : World} {base : Nat} {e : TypeId} {size n c g : Nat} {xs : List Value} (h : w.ownsRow base e size (.slice (some ⟨g, 0, none⟩) n c) n xs) {p : Addr} (hp : g ≠ p.block) (u : Value) : (w.setCell p u).ownsRow base e size (.slice (some ⟨g, 0, none⟩) n c) n xs := by
  obtain ⟨hl, h⟩ := h
  refine ⟨hl, ?_⟩
  rcases h with ⟨h, _⟩ | ⟨g', cap, cur, e1, hb, hg, h1, h2, h3, h4⟩
  · cases h
  · cases e1
    exact .inr ⟨g, c, cur, rfl, hb, Blk.far hg hp u, h1, h2, h3, h4⟩
theorem own_addr {w : World} {base : Nat} {e : TypeId} {size n c : Nat} {A : Option Addr} {xs : List Value} (h : w.ownsRow base e size (.slice A n c) n xs) (hn : 1 ≤ n) : ∃ g, A = some ⟨g, 0, none⟩ ∧ base ≤ g ∧ g < w.heap.size ∧ n ≤ c ∧ w.ownsRow 0 e size (.slice (some ⟨g, 0, none⟩) n c) n xs := by
  obtain ⟨hl, h⟩ := h
  rcases h with ⟨_, h⟩ | ⟨g, cap, cur, e1, hb, hg, h1, h2, h3, h4⟩
  · omega
  · cases e1
    exact ⟨g, rfl, hb, Blk.lt hg, h1, hl, .inr ⟨g, c, cur, rfl, Nat.zero_le _, hg, h1, h2, h3, h4⟩⟩
theorem own_cells {w : World} {base : Nat} {e : TypeId} {size n c g : Nat} {xs : List Value} (h : w.ownsRow base e size (.slice (some ⟨g, 0, none⟩) n c) n xs) {k : Nat} (hk : k < n * size) : (∃ u, xs[k]? = some u ∧ w.cell? ⟨g, k, none⟩ = some u) ∧ w.frozen? ⟨g, k, none⟩ = false ∧ g < w.heap.size := by
  obtain ⟨hl, h⟩ := h
  rcases h with ⟨h, _⟩ | ⟨g', cap, cur, e1, hb, hg, h1, h2, h3, h4⟩
  · cases h
  · cases e1
    have hx : xs[k]? = some (xs[k]'(by omega)) := List.getElem?_eq_getElem (by omega)
    refine ⟨⟨_, hx, ?_⟩, Blk.frozen hg k, Blk.lt hg⟩
    rw [Blk.cell hg k, ← hx, ← h4, List.getElem?_take_of_lt hk, Array.getElem?_toList]
def Stp.put (x : Stp) (j : Nat) (u : Int) : Stp := match j with
  | 0 => { x with src := u } | 1 => { x with tru := u } | 2 => { x with loc := u } | 3 => { x with out := u } | 4 => { x with outL := u } | 5 => { x with hold := u }
  | 6 => { x with holdL := u } | 7 => { x with back := u } | 8 => { x with backL := u } | 9 => { x with w2 := u } | _ => { x with w3 := u }
theorem Stp.put_enc (x : Stp) (j : Nat) (u : Int) (h : j < 11) : encStp (x.put j u) = (encStp x).set j (.int .i64 u) := by
  obtain rfl | rfl | rfl | rfl | rfl | rfl | rfl | rfl | rfl | rfl | rfl : j = 0 ∨ j = 1 ∨ j = 2 ∨ j = 3 ∨ j = 4 ∨ j = 5 ∨ j = 6 ∨ j = 7 ∨ j = 8 ∨ j = 9 ∨ j = 10 := by omega
  all_goals rfl
/-- A schedule in block q, its lists in blocks of their own. -/
structure MS (w : World) (q eb sb : Nat) (s : Sch) (c c' : Nat) : Prop where
  blk : Blk w q 25 #[.int .i64 s.start, .int .i64 s.loc, .int .i64 s.ppb, .int .i64 s.liars, .int .i64 s.aim, .slice (some ⟨eb, 0, none⟩) s.errs.length c, .slice (some ⟨sb, 0, none⟩) s.steps.length c']
  e : w.ownsRow 0 3 1 (.slice (some ⟨eb, 0, none⟩) s.errs.length c) s.errs.length (s.errs.flatMap encI)
  t : w.ownsRow 0 45 11 (.slice (some ⟨sb, 0, none⟩) s.steps.length c') s.steps.length (s.steps.flatMap encStp)
  qe : q ≠ eb
  qs : q ≠ sb
  es : eb ≠ sb
  n : 1 ≤ s.errs.length ∧ s.errs.length ≤ 5
  m : 1 ≤ s.steps.length ∧ s.steps.length ≤ 16
def PtrOk (q eb sb n m : Nat) (p : Addr) : Prop := (∃ j, j < 5 ∧ p = ⟨q, j, none⟩) ∨ (∃ r, r < n ∧ p = ⟨eb, r, none⟩) ∨ (∃ i j, i < m ∧ j < 11 ∧ p = ⟨sb, i * 11 + j, none⟩)
theorem MS.put {w : World} {q eb sb : Nat} {s : Sch} {c c' : Nat} (h : MS w q eb sb s c c') {p : Addr} (hp : PtrOk q eb sb s.errs.length s.steps.length p) (u : Int) : ∃ s', MS (w.setCell p (.int .i64 u)) q eb sb s' c c' := by
  obtain ⟨hb, he, ht, qe, qs, es, hn, hm⟩ := h
  rcases hp with ⟨j, hj, rfl⟩ | ⟨r, hr, rfl⟩ | ⟨i, j, hi, hj, rfl⟩
  · have he' := own_other he (p := ⟨q, j, none⟩) (fun e => qe e.symm) (.int .i64 u)
    have ht' := own_other ht (p := ⟨q, j, none⟩) (fun e => qs e.symm) (.int .i64 u)
    obtain rfl | rfl | rfl | rfl | rfl : j = 0 ∨ j = 1 ∨ j = 2 ∨ j = 3 ∨ j = 4 := by omega
    · exact ⟨{ s with start := u }, hb.set 0 _, he', ht', qe, qs, es, hn, hm⟩
    · exact ⟨{ s with loc := u }, hb.set 1 _, he', ht', qe, qs, es, hn, hm⟩
    · exact ⟨{ s with ppb := u }, hb.set 2 _, he', ht', qe, qs, es, hn, hm⟩
    · exact ⟨{ s with liars := u }, hb.set 3 _, he', ht', qe, qs, es, hn, hm⟩
    · exact ⟨{ s with aim := u }, hb.set 4 _, he', ht', qe, qs, es, hn, hm⟩
  · have hx : s.errs[r]? = some (s.errs[r]'hr) := List.getElem?_eq_getElem hr
    have e2 := own_set he r (.int .i64 u)
    have e3 := flat_put (enc := encI) (k := 1) (fun _ => rfl) (j := 0) (by decide) (y := u) (u := .int .i64 u) rfl s.errs r hx
    rw [Nat.mul_one, Nat.add_zero] at e3
    rw [e3] at e2
    have hl : (s.errs.set r u).length = s.errs.length := List.length_set
    refine ⟨{ s with errs := s.errs.set r u }, ?_, ?_, own_other ht (p := ⟨eb, r, none⟩) (fun e => es e.symm) _, qe, qs, es, by rw [hl]; exact hn, hm⟩
    · show Blk _ _ _ #[_, _, _, _, _, .slice _ (s.errs.set r u).length _, _]
      rw [hl]
      exact hb.far (p := ⟨eb, r, none⟩) qe _
    · show World.ownsRow _ _ _ _ (.slice _ (s.errs.set r u).length _) (s.errs.set r u).length _
      rw [hl]
      exact e2
  · have hx : s.steps[i]? = some (s.steps[i]'hi) := List.getElem?_eq_getElem hi
    have e2 := own_set ht (i * 11 + j) (.int .i64 u)
    have e3 := flat_put (enc := encStp) (k := 11) (fun _ => rfl) (j := j) hj (y := (s.steps[i]'hi).put j u) (u := .int .i64 u) (Stp.put_enc _ _ _ hj) s.steps i hx
    rw [e3] at e2
    have hl : (s.steps.set i ((s.steps[i]'hi).put j u)).length = s.steps.length := List.length_set
    refine ⟨{ s with steps := s.steps.set i ((s.steps[i]'hi).put j u) }, ?_, own_other he (p := ⟨sb, i * 11 + j, none⟩) es _, ?_, qe, qs, es, hn, by rw [hl]; exact hm⟩
    · show Blk _ _ _ #[_, _, _, _, _, _, .slice _ (s.steps.set i ((s.steps[i]'hi).put j u)).length _]
      rw [hl]
      exact hb.far (p := ⟨sb, i * 11 + j, none⟩) qs _
    · show World.ownsRow _ _ _ _ (.slice _ (s.steps.set i ((s.steps[i]'hi).put j u)).length _) (s.steps.set i ((s.steps[i]'hi).put j u)).length _
      rw [hl]
      exact e2
theorem MS.cell {w : World} {q eb sb : Nat} {s : Sch} {c c' : Nat} (h : MS w q eb sb s c c') {p : Addr} (hp : PtrOk q eb sb s.errs.length s.steps.length p) : (∃ v, w.cell? p = some v) ∧ w.frozen? p = false ∧ p.block < w.heap.size := by
  rcases hp with ⟨j, hj, rfl⟩ | ⟨r, hr, rfl⟩ | ⟨i, j, hi, hj, rfl⟩
  · refine ⟨?_, h.blk.frozen j, h.blk.lt⟩
    rw [h.blk.cell j]
    exact ⟨_, Array.getElem?_eq_getElem (by show j < 7; omega)⟩
  · obtain ⟨⟨u, _, hu⟩, hf, hl⟩ := own_cells h.e (k := r) (by omega)
    exact ⟨⟨u, hu⟩, hf, hl⟩
  · obtain ⟨⟨u, _, hu⟩, hf, hl⟩ := own_cells h.t (k := i * 11 + j) (by omega)
    exact ⟨⟨u, hu⟩, hf, hl⟩
theorem MS.lt {w : World} {q eb sb : Nat} {s : Sch} {c c' : Nat} (h : MS w q eb sb s c c') : q < w.heap.size ∧ eb < w.heap.size ∧ sb < w.heap.size :=
  ⟨h.blk.lt, (own_cells h.e (k := 0) (by have := h.n; omega)).2.2, (own_cells h.t (k := 0) (by have := h.m; omega)).2.2⟩
theorem own_keepB {w w' : World} {base : Nat} {e : TypeId} {size n c g B : Nat} {xs : List Value} (h : w.ownsRow base e size (.slice (some ⟨g, 0, none⟩) n c) n xs) (hb : Below B w w') (hg : g < B) : w'.ownsRow base e size (.slice (some ⟨g, 0, none⟩) n c) n xs := by
  obtain ⟨hl, h⟩ := h
  refine ⟨hl, ?_⟩
  rcases h with ⟨h, _⟩ | ⟨g', cap, cur, e1, hb', hg', h1, h2, h3, h4⟩
  · cases h
  · cases e1
    exact .inr ⟨g, c, cur, rfl, hb', Blk.keep2 hg' hb hg, h1, h2, h3, h4⟩
theorem MS.keep {w w' : World} {q eb sb B : Nat} {s : Sch} {c c' : Nat} (h : MS w q eb sb s c c') (hb : Below B w w') (hB : w.heap.size ≤ B) : MS w' q eb sb s c c' := by
  obtain ⟨l1, l2, l3⟩ := h.lt
  exact ⟨h.blk.keep2 hb (by omega), own_keepB h.e hb (by omega), own_keepB h.t hb (by omega), h.qe, h.qs, h.es, h.n, h.m⟩
theorem MS.in {w : World} {q eb sb : Nat} {s : Sch} {c c' : Nat} (h : MS w q eb sb s c c') : SchIn w w.heap.size s (some ⟨eb, 0, none⟩) (some ⟨sb, 0, none⟩) :=
  ⟨by have := h.n; omega, by have := h.m; omega, RdL.of_own' (enc := encI) (k := 1) (fun _ => rfl) h.e rfl (by have := h.n; omega), RdL.of_own' (enc := encStp) (k := 11) (fun _ => rfl) h.t rfl (by have := h.m; omega)⟩
theorem MS.made {w w' : World} {s : Sch} {A A' : Option Addr} {c c' : Nat} (h : SchedOwn s A c A' c' w w') (hn : 1 ≤ s.errs.length ∧ s.errs.length ≤ 5) (hm : 1 ≤ s.steps.length ∧ s.steps.length ≤ 16) :
    ∃ eb sb, A = some ⟨eb, 0, none⟩ ∧ A' = some ⟨sb, 0, none⟩ ∧ w.heap.size ≤ eb ∧ w.heap.size ≤ sb ∧ s.errs.length ≤ c ∧ s.steps.length ≤ c' ∧ MS (w'.alloc (.cells #[.int .i64 s.start, .int .i64 s.loc, .int .i64 s.ppb, .int .i64 s.liars, .int .i64 s.aim, .slice (some ⟨eb, 0, none⟩) s.errs.length c, .slice (some ⟨sb, 0, none⟩) s.steps.length c'] 25)) w'.heap.size eb sb s c c' := by
  obtain ⟨E, F, o1, o2, hk, hE, hF⟩ := h
  obtain ⟨eb, rfl, h1, h2, c1, h3⟩ := own_addr o1 hn.1
  obtain ⟨sb, rfl, g1, g2, c2, g3⟩ := own_addr o2 hm.1
  have hes := hk eb rfl
  have hb : Below w'.heap.size w' (w'.alloc (.cells #[.int .i64 s.start, .int .i64 s.loc, .int .i64 s.ppb, .int .i64 s.liars, .int .i64 s.aim, .slice (some ⟨eb, 0, none⟩) s.errs.length c, .slice (some ⟨sb, 0, none⟩) s.steps.length c'] 25)) := below_alloc (Below.refl _ _) _
  exact ⟨eb, sb, rfl, rfl, by omega, by omega, c1, c2, Blk.new _ _ _, own_keepB h3 hb h2, own_keepB g3 hb g2, by omega, by omega, by omega, hn, hm⟩
def rbF (g q eb sb c c2 n m k r nt ct : Nat) (T : Option Addr) (which wher vv : Int) (s : Sch) : Nat → Value → World → Prop
  | 0, x, _ => x = .pointer (some ⟨q, 0, none⟩)
  | 1, x, _ => x = .pointer (some ⟨q, 1, none⟩)
  | 2, x, _ => x = .pointer (some ⟨q, 2, none⟩)
  | 3, x, _ => x = .pointer (some ⟨q, 3, none⟩)
  | 4, x, _ => x = .pointer (some ⟨q, 4, none⟩)
  | 5, x, _ => x = .pointer (some ⟨q, 5, none⟩)
  | 6, x, _ => x = .slice (some ⟨eb, 0, none⟩) n c
  | 7, x, _ => x = .int .i64 wher
  | 8, x, _ => x = .pointer (some ⟨q, 5, none⟩)
  | 9, x, _ => x = .slice (some ⟨eb, 0, none⟩) n c
  | 10, x, _ => x = .int .i64 (n : Int)
  | 11, x, _ => x = .int .i64 (r : Int)
  | 12, x, _ => x = .pointer (some ⟨eb, r, none⟩)
  | 13, x, _ => x = .pointer (some ⟨sb, k * 11, none⟩)
  | 14, x, _ => x = .pointer (some ⟨sb, k * 11, none⟩)
  | 15, x, _ => x = .pointer (some ⟨sb, k * 11, none⟩)
  | 16, x, _ => x = .pointer (some ⟨sb, k * 11, none⟩)
  | 17, x, _ => x = .pointer (some ⟨sb, k * 11, none⟩)
  | 18, x, _ => x = .pointer (some ⟨sb, k * 11 + 1, none⟩)
  | 19, x, _ => x = .pointer (some ⟨sb, k * 11, none⟩)
  | 20, x, _ => x = .pointer (some ⟨sb, k * 11, none⟩)
  | 21, x, _ => x = .pointer (some ⟨sb, k * 11 + 2, none⟩)
  | 22, x, _ => x = .pointer (some ⟨sb, k * 11, none⟩)
  | 23, x, _ => x = .pointer (some ⟨sb, k * 11, none⟩)
  | 24, x, _ => x = .pointer (some ⟨sb, k * 11 + 3, none⟩)
  | 25, x, _ => x = .pointer (some ⟨sb, k * 11, none⟩)
  | 26, x, _ => x = .pointer (some ⟨sb, k * 11, none⟩)
  | 27, x, _ => x = .pointer (some ⟨sb, k * 11 + 4, none⟩)
  | 28, x, _ => x = .pointer (some ⟨sb, k * 11, none⟩)
  | 29, x, _ => x = .pointer (some ⟨sb, k * 11, none⟩)
  | 30, x, _ => x = .pointer (some ⟨sb, k * 11 + 5, none⟩)
  | 31, x, _ => x = .pointer (some ⟨sb, k * 11, none⟩)
  | 32, x, _ => x = .pointer (some ⟨sb, k * 11, none⟩)
  | 33, x, _ => x = .pointer (some ⟨sb, k * 11 + 6, none⟩)
  | 34, x, _ => x = .pointer (some ⟨sb, k * 11, none⟩)
  | 35, x, _ => x = .pointer (some ⟨sb, k * 11, none⟩)
  | 36, x, _ => x = .pointer (some ⟨sb, k * 11 + 7, none⟩)
  | 37, x, _ => x = .pointer (some ⟨sb, k * 11, none⟩)
  | 38, x, _ => x = .pointer (some ⟨sb, k * 11, none⟩)
  | 39, x, _ => x = .pointer (some ⟨sb, k * 11 + 8, none⟩)
  | 40, x, _ => x = .pointer (some ⟨sb, k * 11, none⟩)
  | 41, x, _ => x = .pointer (some ⟨sb, k * 11, none⟩)
  | 42, x, _ => x = .pointer (some ⟨sb, k * 11 + 9, none⟩)
  | 43, x, _ => x = .pointer (some ⟨sb, k * 11, none⟩)
  | 44, x, _ => x = .pointer (some ⟨sb, k * 11, none⟩)
  | 45, x, _ => x = .pointer (some ⟨sb, k * 11 + 10, none⟩)
  | 46, x, W => ∃ b : Nat, x = .slice (some ⟨b, 0, none⟩) 17 17 ∧ Blk W b 47 #[.pointer (some ⟨q, 0, none⟩), .pointer (some ⟨q, 1, none⟩), .pointer (some ⟨q, 2, none⟩), .pointer (some ⟨q, 3, none⟩), .pointer (some ⟨q, 4, none⟩), .pointer (some ⟨eb, r, none⟩), .pointer (some ⟨sb, k * 11, none⟩), .pointer (some ⟨sb, k * 11 + 1, none⟩), .pointer (some ⟨sb, k * 11 + 2, none⟩), .pointer (some ⟨sb, k * 11 + 3, none⟩), .pointer (some ⟨sb, k * 11 + 4, none⟩), .pointer (some ⟨sb, k * 11 + 5, none⟩), .pointer (some ⟨sb, k * 11 + 6, none⟩), .pointer (some ⟨sb, k * 11 + 7, none⟩), .pointer (some ⟨sb, k * 11 + 8, none⟩), .pointer (some ⟨sb, k * 11 + 9, none⟩), .pointer (some ⟨sb, k * 11 + 10, none⟩)]
  | _, _, _ => True
def rbFr (g q eb sb c c2 n m k r nt ct : Nat) (T : Option Addr) (which wher vv : Int) (s : Sch) (v : Nat → Value) : Act := ⟨#[.slice T nt ct, .int .i64 which, .int .i64 wher, .int .i64 vv, undef, undef, undef, undef, .bool false, .pointer (some ⟨q, 0, none⟩), .pointer (some ⟨sb, k * 11, none⟩), v 11, undef, undef, undef, undef, undef, undef, undef, undef, undef, .slice T nt ct, .pointer (some ⟨g, 0, none⟩), .agg #[.int .i64 s.start, .int .i64 s.loc, .int .i64 s.ppb, .int .i64 s.liars, .int .i64 s.aim, .slice (some ⟨eb, 0, none⟩) s.errs.length c, .slice (some ⟨sb, 0, none⟩) s.steps.length c2], .pointer (some ⟨q, 6, none⟩), .slice (some ⟨sb, 0, none⟩) m c2, .int .i64 wher, .pointer (some ⟨q, 6, none⟩), .slice (some ⟨sb, 0, none⟩) m c2, .int .i64 (m : Int), .int .i64 (k : Int), .pointer (some ⟨sb, k * 11, none⟩), v 32, v 33, v 34, v 35, v 36, v 37, v 38, v 39, v 40, v 41, v 42, v 43, v 44, v 45, v 46, v 47, v 48, v 49, v 50, v 51, v 52, v 53, v 54, v 55, v 56, v 57, v 58, v 59, v 60, v 61, v 62, v 63, v 64, v 65, v 66, v 67, v 68, v 69, v 70, v 71, v 72, v 73, v 74, v 75, v 76, v 77, v 78, undef, undef, undef, undef, undef, undef, undef, undef, undef, undef, undef, undef, undef, undef, undef, undef, undef, undef, undef, undef, undef, undef, undef, undef, undef, undef, undef, undef, undef, undef, undef, undef, undef, undef, undef, undef, undef, undef, undef, undef, undef, undef, undef, undef, undef, undef, undef, undef, undef, undef, undef, undef, undef, undef, undef, undef, undef, undef, undef, undef, undef, undef, undef, undef, undef, undef, undef, undef, undef], []⟩
def rcF (pl i17 pb po j6 : Nat) (which vv u20 : Int) : Nat → Value → World → Prop
  | 0, x, _ => x = .slice (some ⟨pl, 0, none⟩) 17 17
  | 1, x, _ => x = .int .i64 which
  | 2, x, _ => x = .slice (some ⟨pl, 0, none⟩) 17 17
  | 3, x, _ => x = .int .i64 17
  | 4, x, _ => x = .int .i64 (i17 : Int)
  | 5, x, _ => x = .pointer (some ⟨pl, i17, none⟩)
  | 6, x, _ => x = .pointer (some ⟨pb, po, none⟩)
  | 7, x, _ => x = .int .i64 vv
  | 8, x, _ => x = .int .i64 vv
  | 9, x, _ => x = .int .i64 u20
  | 10, x, _ => x = .int .i64 (u20 - 5)
  | 11, x, W => ∃ b : Nat, x = .slice (some ⟨b, 0, none⟩) 6 6 ∧ Blk W b 3 #[.int .i64 vv, .int .i64 (u20 - 5), .int .i64 1125899906842624, .int .i64 1125899906842625, .int .i64 (-1125899906842624), .int .i64 (-1125899906842625)]
  | 12, x, _ => x = .int .i64 vv
  | 13, x, _ => x = .int .i64 (j6 : Int)
  | 14, x, W => ∃ b : Nat, x = .pointer (some ⟨b, j6, none⟩) ∧ Blk W b 3 #[.int .i64 vv, .int .i64 (u20 - 5), .int .i64 1125899906842624, .int .i64 1125899906842625, .int .i64 (-1125899906842624), .int .i64 (-1125899906842625)]
  | 15, x, _ => ∃ u : Int, x = .int .i64 u
  | 16, x, _ => x = .pointer (some ⟨pb, po, none⟩)
  | _, _, _ => True
def rcFr (pl g q eb sb c c2 n m k r nt ct : Nat) (T : Option Addr) (which wher vv : Int) (s : Sch) (v32 v33 v34 v35 v36 v37 v38 v39 v40 v41 v42 v43 v44 v45 v46 v47 v48 v49 v50 v51 v52 v53 v54 v55 v56 v57 v58 v59 v60 v61 v62 v63 v64 v65 v66 v67 v68 v69 v70 v71 v72 v73 v74 v75 v76 v77 : Value) (v : Nat → Value) : Act := ⟨#[.slice T nt ct, .int .i64 which, .int .i64 wher, .int .i64 vv, undef, undef, undef, undef, .bool false, .pointer (some ⟨q, 0, none⟩), .pointer (some ⟨sb, k * 11, none⟩), .slice (some ⟨pl, 0, none⟩) 17 17, undef, undef, undef, undef, undef, undef, undef, undef, undef, .slice T nt ct, .pointer (some ⟨g, 0, none⟩), .agg #[.int .i64 s.start, .int .i64 s.loc, .int .i64 s.ppb, .int .i64 s.liars, .int .i64 s.aim, .slice (some ⟨eb, 0, none⟩) s.errs.length c, .slice (some ⟨sb, 0, none⟩) s.steps.length c2], .pointer (some ⟨q, 6, none⟩), .slice (some ⟨sb, 0, none⟩) m c2, .int .i64 wher, .pointer (some ⟨q, 6, none⟩), .slice (some ⟨sb, 0, none⟩) m c2, .int .i64 (m : Int), .int .i64 (k : Int), .pointer (some ⟨sb, k * 11, none⟩), v32, v33, v34, v35, v36, v37, v38, v39, v40, v41, v42, v43, v44, v45, v46, v47, v48, v49, v50, v51, v52, v53, v54, v55, v56, v57, v58, v59, v60, v61, v62, v63, v64, v65, v66, v67, v68, v69, v70, v71, v72, v73, v74, v75, v76, v77, .slice (some ⟨pl, 0, none⟩) 17 17, v 79, v 80, v 81, v 82, v 83, v 84, v 85, v 86, v 87, v 88, v 89, v 90, v 91, v 92, v 93, v 94, v 95, undef, undef, undef, undef, undef, undef, undef, undef, undef, undef, undef, undef, undef, undef, undef, undef, undef, undef, undef, undef, undef, undef, undef, undef, undef, undef, undef, undef, undef, undef, undef, undef, undef, undef, undef, undef, undef, undef, undef, undef, undef, undef, undef, undef, undef, undef, undef, undef, undef, undef, undef, undef], []⟩
theorem rbF_keep {g q eb sb c c2 n m k r nt ct : Nat} {T : Option Addr} {which wher vv : Int} {s : Sch} {j : Nat} {x : Value} {w w' : World} (h : rbF g q eb sb c c2 n m k r nt ct T which wher vv s j x w) (hb : Below w.heap.size w w') : rbF g q eb sb c c2 n m k r nt ct T which wher vv s j x w' := by
  unfold rbF at *
  split at h
  all_goals first
    | exact h
    | (obtain ⟨b, e1, e2⟩ := h; exact ⟨b, e1, e2.keep hb⟩)
theorem rcF_keep {L i17 pb po j6 : Nat} {which vv u20 : Int} {j : Nat} {x : Value} {w w' : World} (h : rcF L i17 pb po j6 which vv u20 j x w) (hb : Below w.heap.size w w') : rcF L i17 pb po j6 which vv u20 j x w' := by
  unfold rcF at *
  split at h
  all_goals first
    | exact h
    | (obtain ⟨b, e1, e2⟩ := h; exact ⟨b, e1, e2.keep hb⟩)
theorem cell6 {w : World} {b : Nat} {t : TypeId} {a0 a1 a2 a3 a4 a5 : Int} (h : Blk w b t #[.int .i64 a0, .int .i64 a1, .int .i64 a2, .int .i64 a3, .int .i64 a4, .int .i64 a5]) {j : Nat} (hj : j < 6) : ∃ u : Int, w.cell? ⟨b, j, none⟩ = some (.int .i64 u) := by
  rw [h.cell j]
  obtain rfl | rfl | rfl | rfl | rfl | rfl : j = 0 ∨ j = 1 ∨ j = 2 ∨ j = 3 ∨ j = 4 ∨ j = 5 := by omega
  all_goals exact ⟨_, rfl⟩
theorem ptr17 {q eb sb n m k r : Nat} (i : Nat) (hi : i < 17) (hr : r < n) (hk : k < m) : ∃ pb po, PtrOk q eb sb n m ⟨pb, po, none⟩ ∧ (#[.pointer (some ⟨q, 0, none⟩), .pointer (some ⟨q, 1, none⟩), .pointer (some ⟨q, 2, none⟩), .pointer (some ⟨q, 3, none⟩), .pointer (some ⟨q, 4, none⟩), .pointer (some ⟨eb, r, none⟩), .pointer (some ⟨sb, k * 11, none⟩), .pointer (some ⟨sb, k * 11 + 1, none⟩), .pointer (some ⟨sb, k * 11 + 2, none⟩), .pointer (some ⟨sb, k * 11 + 3, none⟩), .pointer (some ⟨sb, k * 11 + 4, none⟩), .pointer (some ⟨sb, k * 11 + 5, none⟩), .pointer (some ⟨sb, k * 11 + 6, none⟩), .pointer (some ⟨sb, k * 11 + 7, none⟩), .pointer (some ⟨sb, k * 11 + 8, none⟩), .pointer (some ⟨sb, k * 11 + 9, none⟩), .pointer (some ⟨sb, k * 11 + 10, none⟩)] : Array Value)[i]? = some (.pointer (some ⟨pb, po, none⟩)) := by
  obtain rfl | rfl | rfl | rfl | rfl | rfl | rfl | rfl | rfl | rfl | rfl | rfl | rfl | rfl | rfl | rfl | rfl : i = 0 ∨ i = 1 ∨ i = 2 ∨ i = 3 ∨ i = 4 ∨ i = 5 ∨ i = 6 ∨ i = 7 ∨ i = 8 ∨ i = 9 ∨ i = 10 ∨ i = 11 ∨ i = 12 ∨ i = 13 ∨ i = 14 ∨ i = 15 ∨ i = 16 := by omega
  · exact ⟨q, 0, .inl ⟨0, by decide, rfl⟩, rfl⟩
  · exact ⟨q, 1, .inl ⟨1, by decide, rfl⟩, rfl⟩
  · exact ⟨q, 2, .inl ⟨2, by decide, rfl⟩, rfl⟩
  · exact ⟨q, 3, .inl ⟨3, by decide, rfl⟩, rfl⟩
  · exact ⟨q, 4, .inl ⟨4, by decide, rfl⟩, rfl⟩
  · exact ⟨eb, r, .inr (.inl ⟨r, hr, rfl⟩), rfl⟩
  · exact ⟨sb, k * 11, .inr (.inr ⟨k, 0, hk, by decide, rfl⟩), rfl⟩
  · exact ⟨sb, k * 11 + 1, .inr (.inr ⟨k, 1, hk, by decide, rfl⟩), rfl⟩
  · exact ⟨sb, k * 11 + 2, .inr (.inr ⟨k, 2, hk, by decide, rfl⟩), rfl⟩
  · exact ⟨sb, k * 11 + 3, .inr (.inr ⟨k, 3, hk, by decide, rfl⟩), rfl⟩
  · exact ⟨sb, k * 11 + 4, .inr (.inr ⟨k, 4, hk, by decide, rfl⟩), rfl⟩
  · exact ⟨sb, k * 11 + 5, .inr (.inr ⟨k, 5, hk, by decide, rfl⟩), rfl⟩
  · exact ⟨sb, k * 11 + 6, .inr (.inr ⟨k, 6, hk, by decide, rfl⟩), rfl⟩
  · exact ⟨sb, k * 11 + 7, .inr (.inr ⟨k, 7, hk, by decide, rfl⟩), rfl⟩
  · exact ⟨sb, k * 11 + 8, .inr (.inr ⟨k, 8, hk, by decide, rfl⟩), rfl⟩
  · exact ⟨sb, k * 11 + 9, .inr (.inr ⟨k, 9, hk, by decide, rfl⟩), rfl⟩
  · exact ⟨sb, k * 11 + 10, .inr (.inr ⟨k, 10, hk, by decide, rfl⟩), rfl⟩

set_option maxHeartbeats 1000000 in
set_option maxRecDepth 100000 in
theorem SimulateRefuses_ok (T : Option Addr) (nt ct : Nat) (l : List Int) (which wher val : Int) (w : World) (hT : RdL encI 1 w w.heap.size T nt l) :
    Calls Tryz.prog 4 #[.slice T nt ct, .int .i64 which,   .int .i64 wher, .int .i64 val] w fun e w' => e = .returned (.bool true) ∧ Below w.heap.size w w' := by
  have H := Lib.hid hT
  clear hT
  go_enter Tryz.func4, Tryz.ntmps4
  go_wp2_with fail
  refine (New_ok T nt ct l w H.out).mono ?_
  rintro e w1 ⟨rfl, ht, hb, hs1⟩
  have TT := Lib.hid ht
  have B1 := Lib.hid hb
  have Z1 := Lib.hid hs1
  clear ht hb hs1 H
  go_wp2_with fail
  refine (Schedule_ok 6 true w1 w.heap.size w.heap.size T nt ct l TT.out (by omega) (by omega)).mono ?_
  rintro e w2 ⟨s, A, c, A', c', rfl, n1, n5, m1, m16, -, -, ho, hlt, own⟩
  obtain ⟨eb, sb, rfl, rfl, he, hs, hc, hc', hM⟩ := MS.made own ⟨n1, n5⟩ ⟨m1, m16⟩
  obtain ⟨W, hW⟩ : ∃ W, W = w2.alloc (.cells #[.int .i64 s.start, .int .i64 s.loc, .int .i64 s.ppb, .int .i64 s.liars, .int .i64 s.aim, .slice (some ⟨eb, 0, none⟩) s.errs.length c, .slice (some ⟨sb, 0, none⟩) s.steps.length c'] 25) := ⟨_, rfl⟩
  have M := Lib.hid (show MS W w2.heap.size eb sb s c c' by rw [hW]; exact hM)
  have BW := Lib.hid (show Below w.heap.size w W by rw [hW]; exact below_alloc (BOnly B1.out ho (Nat.le_refl _) (Nat.le_refl _)) _)
  have hw2 := Lib.hid (show w.heap.size ≤ w2.heap.size from Nat.le_trans B1.out.size ho.size)
  have hEB := Lib.hid (show w.heap.size ≤ eb from Nat.le_trans B1.out.size he)
  have hSB := Lib.hid (show w.heap.size ≤ sb from Nat.le_trans B1.out.size hs)
  clear own hM ho hlt TT Z1 he hs
  obtain ⟨k, hk⟩ : ∃ k : Nat, wI wher s.steps.length = k := ⟨(wI wher s.steps.length).toNat, by have := wI_in wher (n := s.steps.length) (by omega); omega⟩
  obtain ⟨r, hr⟩ : ∃ r : Nat, wI wher s.errs.length = r := ⟨(wI wher s.errs.length).toNat, by have := wI_in wher (n := s.errs.length) (by omega); omega⟩
  have hkl : k < s.steps.length := by have := wI_in wher (n := s.steps.length) (by omega); omega
  have hrl : r < s.errs.length := by have := wI_in wher (n := s.errs.length) (by omega); omega
  have K1 := Lib.hid (show ∀ Z, Calls Tryz.prog 18 #[.int .i64 wher, .int .i64 (s.steps.length : Int)] Z fun e w' => e = .returned (.int .i64 (k : Int)) ∧ w' = Z from fun Z => (Within_eq wher s.steps.length Z (by omega) (by omega)).mono fun _ _ h => ⟨by rw [← hk]; exact h.1, h.2.symm⟩)
  have K2 := Lib.hid (show ∀ Z, Calls Tryz.prog 18 #[.int .i64 wher, .int .i64 (s.errs.length : Int)] Z fun e w' => e = .returned (.int .i64 (r : Int)) ∧ w' = Z from fun Z => (Within_eq wher s.errs.length Z (by omega) (by omega)).mono fun _ _ h => ⟨by rw [← hr]; exact h.1, h.2.symm⟩)
  clear hk hr
  have hnn := Lib.hid (show s.errs.length = s.errs.length from rfl)
  have hmm := Lib.hid (show s.steps.length = s.steps.length from rfl)
  have i1 : (0 : Int) ≤ (k : Int) := by omega
  have i2 : (k : Int) < (s.steps.length : Int) := by omega
  have i3 : (0 : Int) ≤ (r : Int) := by omega
  have i4 : (r : Int) < (s.errs.length : Int) := by omega
  have hqW := M.out.lt.1
  obtain ⟨x0, x1, x2, x3, x4, x5, x6⟩ := blk7 M.out.blk
  go_wp2_with fail
  rw [← hW]
  clear hW
  go_quiet ((go_at_call 18; exact Calls.quiet_of_same (K1.out _)))
  go_wp2_with fail
  clear x0 x1 x2 x3 x4 x5 x6
  have hcells : ∀ Z, Below W.heap.size W Z → _ := fun Z hZ => blk7 (M.out.blk.keep hZ)
  refine wp_region_facts (by kernel_rfl) (rbFr w.heap.size w2.heap.size eb sb c c' s.errs.length s.steps.length k r nt ct T which wher val s) (fun _ => undef) (by rfl) (rbF w.heap.size w2.heap.size eb sb c c' s.errs.length s.steps.length k r nt ct T which wher val s) (fun _ W1 => Below W.heap.size W W1) (fun _ W1 W2 => Below W1.heap.size W1 W2) 47 (by rfl) ?hgl (by kernel_rfl) (by kernel_rfl) (by kernel_rfl) ?hX0 (fun i j x w1 w2 hij h k => rbF_keep h k) ?hdst ?hop ?hend
  case hX0 => exact below_drew (below_drewN (Below.refl _ _) _)
  case hgl => intro o ho; obtain rfl := Option.some.inj ho; rfl
  case hdst =>
    intro i o hi ho
    obtain rfl | rfl | rfl | rfl | rfl | rfl | rfl | rfl | rfl | rfl | rfl | rfl | rfl | rfl | rfl | rfl | rfl | rfl | rfl | rfl | rfl | rfl | rfl | rfl | rfl | rfl | rfl | rfl | rfl | rfl | rfl | rfl | rfl | rfl | rfl | rfl | rfl | rfl | rfl | rfl | rfl | rfl | rfl | rfl | rfl | rfl | rfl : i = 0 ∨ i = 1 ∨ i = 2 ∨ i = 3 ∨ i = 4 ∨ i = 5 ∨ i = 6 ∨ i = 7 ∨ i = 8 ∨ i = 9 ∨ i = 10 ∨ i = 11 ∨ i = 12 ∨ i = 13 ∨ i = 14 ∨ i = 15 ∨ i = 16 ∨ i = 17 ∨ i = 18 ∨ i = 19 ∨ i = 20 ∨ i = 21 ∨ i = 22 ∨ i = 23 ∨ i = 24 ∨ i = 25 ∨ i = 26 ∨ i = 27 ∨ i = 28 ∨ i = 29 ∨ i = 30 ∨ i = 31 ∨ i = 32 ∨ i = 33 ∨ i = 34 ∨ i = 35 ∨ i = 36 ∨ i = 37 ∨ i = 38 ∨ i = 39 ∨ i = 40 ∨ i = 41 ∨ i = 42 ∨ i = 43 ∨ i = 44 ∨ i = 45 ∨ i = 46 := by omega
    all_goals
      obtain rfl := Option.some.inj ho
      exact ⟨_, rfl, rfl, fun _ _ => rfl⟩
  case hop =>
    intro i o L v W1 hi ho hu hX hd K hK
    obtain rfl | rfl | rfl | rfl | rfl | rfl | rfl | rfl | rfl | rfl | rfl | rfl | rfl | rfl | rfl | rfl | rfl | rfl | rfl | rfl | rfl | rfl | rfl | rfl | rfl | rfl | rfl | rfl | rfl | rfl | rfl | rfl | rfl | rfl | rfl | rfl | rfl | rfl | rfl | rfl | rfl | rfl | rfl | rfl | rfl | rfl | rfl : i = 0 ∨ i = 1 ∨ i = 2 ∨ i = 3 ∨ i = 4 ∨ i = 5 ∨ i = 6 ∨ i = 7 ∨ i = 8 ∨ i = 9 ∨ i = 10 ∨ i = 11 ∨ i = 12 ∨ i = 13 ∨ i = 14 ∨ i = 15 ∨ i = 16 ∨ i = 17 ∨ i = 18 ∨ i = 19 ∨ i = 20 ∨ i = 21 ∨ i = 22 ∨ i = 23 ∨ i = 24 ∨ i = 25 ∨ i = 26 ∨ i = 27 ∨ i = 28 ∨ i = 29 ∨ i = 30 ∨ i = 31 ∨ i = 32 ∨ i = 33 ∨ i = 34 ∨ i = 35 ∨ i = 36 ∨ i = 37 ∨ i = 38 ∨ i = 39 ∨ i = 40 ∨ i = 41 ∨ i = 42 ∨ i = 43 ∨ i = 44 ∨ i = 45 ∨ i = 46 := by omega
    · obtain rfl := Option.some.inj ho
      simp only [rbFr] at hK ⊢
      go_simp
      exact hK _ _ hX (Below.refl _ _) rfl
    · obtain rfl := Option.some.inj ho
      simp only [rbFr] at hK ⊢
      go_simp
      exact hK _ _ hX (Below.refl _ _) rfl
    · obtain rfl := Option.some.inj ho
      simp only [rbFr] at hK ⊢
      go_simp
      exact hK _ _ hX (Below.refl _ _) rfl
    · obtain rfl := Option.some.inj ho
      simp only [rbFr] at hK ⊢
      go_simp
      exact hK _ _ hX (Below.refl _ _) rfl
    · obtain rfl := Option.some.inj ho
      simp only [rbFr] at hK ⊢
      go_simp
      exact hK _ _ hX (Below.refl _ _) rfl
    · obtain rfl := Option.some.inj ho
      simp only [rbFr] at hK ⊢
      go_simp
      exact hK _ _ hX (Below.refl _ _) rfl
    · obtain rfl := Option.some.inj ho
      have h5 : (v 37) = .pointer (some ⟨w2.heap.size, 5, none⟩) := hd ⟨5, .data⟩ (by simp) rfl _ 37 rfl rfl
      obtain ⟨x0, x1, x2, x3, x4, x5, x6⟩ := hcells W1 hX
      simp only [rbFr, h5] at hK ⊢
      go_simp
      exact hK _ _ hX (Below.refl _ _) rfl
    · obtain rfl := Option.some.inj ho
      simp only [rbFr] at hK ⊢
      go_simp
      exact hK _ _ hX (Below.refl _ _) rfl
    · obtain rfl := Option.some.inj ho
      simp only [rbFr] at hK ⊢
      go_simp
      exact hK _ _ hX (Below.refl _ _) rfl
    · obtain rfl := Option.some.inj ho
      have h8 : (v 40) = .pointer (some ⟨w2.heap.size, 5, none⟩) := hd ⟨8, .data⟩ (by simp) rfl _ 40 rfl rfl
      obtain ⟨x0, x1, x2, x3, x4, x5, x6⟩ := hcells W1 hX
      simp only [rbFr, h8] at hK ⊢
      go_simp
      exact hK _ _ hX (Below.refl _ _) rfl
    · obtain rfl := Option.some.inj ho
      have h9 : (v 41) = .slice (some ⟨eb, 0, none⟩) s.errs.length c := hd ⟨9, .data⟩ (by simp) rfl _ 41 rfl rfl
      simp only [rbFr, h9] at hK ⊢
      go_simp
      exact hK _ _ hX (Below.refl _ _) rfl
    · obtain rfl := Option.some.inj ho
      have h7 : (v 39) = .int .i64 wher := hd ⟨7, .data⟩ (by simp) rfl _ 39 rfl rfl
      have h10 : (v 42) = .int .i64 (s.errs.length : Int) := hd ⟨10, .data⟩ (by simp) rfl _ 42 rfl rfl
      simp only [rbFr, h7, h10] at hK ⊢
      go_simp
      refine (K2.out W1).mono ?_
      rintro e w9 ⟨rfl, rfl⟩
      exact hK _ _ hX (Below.refl _ _) rfl
    · obtain rfl := Option.some.inj ho
      have h6 : (v 38) = .slice (some ⟨eb, 0, none⟩) s.errs.length c := hd ⟨6, .data⟩ (by simp) rfl _ 38 rfl rfl
      have h11 : (v 43) = .int .i64 (r : Int) := hd ⟨11, .data⟩ (by simp) rfl _ 43 rfl rfl
      simp only [rbFr, h6, h11] at hK ⊢
      go_simp
      exact hK _ _ hX (Below.refl _ _) rfl
    · obtain rfl := Option.some.inj ho
      simp only [rbFr] at hK ⊢
      go_simp
      exact hK _ _ hX (Below.refl _ _) rfl
    · obtain rfl := Option.some.inj ho
      have h13 : (v 45) = .pointer (some ⟨sb, k * 11, none⟩) := hd ⟨13, .data⟩ (by simp) rfl _ 45 rfl rfl
      simp only [rbFr, h13] at hK ⊢
      go_simp
      exact hK _ _ hX (Below.refl _ _) rfl
    · obtain rfl := Option.some.inj ho
      have h14 : (v 46) = .pointer (some ⟨sb, k * 11, none⟩) := hd ⟨14, .data⟩ (by simp) rfl _ 46 rfl rfl
      simp only [rbFr, h14] at hK ⊢
      go_simp
      exact hK _ _ hX (Below.refl _ _) rfl
    · obtain rfl := Option.some.inj ho
      simp only [rbFr] at hK ⊢
      go_simp
      exact hK _ _ hX (Below.refl _ _) rfl
    · obtain rfl := Option.some.inj ho
      have h16 : (v 48) = .pointer (some ⟨sb, k * 11, none⟩) := hd ⟨16, .data⟩ (by simp) rfl _ 48 rfl rfl
      simp only [rbFr, h16] at hK ⊢
      go_simp
      exact hK _ _ hX (Below.refl _ _) rfl
    · obtain rfl := Option.some.inj ho
      have h17 : (v 49) = .pointer (some ⟨sb, k * 11, none⟩) := hd ⟨17, .data⟩ (by simp) rfl _ 49 rfl rfl
      simp only [rbFr, h17] at hK ⊢
      go_simp
      exact hK _ _ hX (Below.refl _ _) rfl
    · obtain rfl := Option.some.inj ho
      simp only [rbFr] at hK ⊢
      go_simp
      exact hK _ _ hX (Below.refl _ _) rfl
    · obtain rfl := Option.some.inj ho
      have h19 : (v 51) = .pointer (some ⟨sb, k * 11, none⟩) := hd ⟨19, .data⟩ (by simp) rfl _ 51 rfl rfl
      simp only [rbFr, h19] at hK ⊢
      go_simp
      exact hK _ _ hX (Below.refl _ _) rfl
    · obtain rfl := Option.some.inj ho
      have h20 : (v 52) = .pointer (some ⟨sb, k * 11, none⟩) := hd ⟨20, .data⟩ (by simp) rfl _ 52 rfl rfl
      simp only [rbFr, h20] at hK ⊢
      go_simp
      exact hK _ _ hX (Below.refl _ _) rfl
    · obtain rfl := Option.some.inj ho
      simp only [rbFr] at hK ⊢
      go_simp
      exact hK _ _ hX (Below.refl _ _) rfl
    · obtain rfl := Option.some.inj ho
      have h22 : (v 54) = .pointer (some ⟨sb, k * 11, none⟩) := hd ⟨22, .data⟩ (by simp) rfl _ 54 rfl rfl
      simp only [rbFr, h22] at hK ⊢
      go_simp
      exact hK _ _ hX (Below.refl _ _) rfl
    · obtain rfl := Option.some.inj ho
      have h23 : (v 55) = .pointer (some ⟨sb, k * 11, none⟩) := hd ⟨23, .data⟩ (by simp) rfl _ 55 rfl rfl
      simp only [rbFr, h23] at hK ⊢
      go_simp
      exact hK _ _ hX (Below.refl _ _) rfl
    · obtain rfl := Option.some.inj ho
      simp only [rbFr] at hK ⊢
      go_simp
      exact hK _ _ hX (Below.refl _ _) rfl
    · obtain rfl := Option.some.inj ho
      have h25 : (v 57) = .pointer (some ⟨sb, k * 11, none⟩) := hd ⟨25, .data⟩ (by simp) rfl _ 57 rfl rfl
      simp only [rbFr, h25] at hK ⊢
      go_simp
      exact hK _ _ hX (Below.refl _ _) rfl
    · obtain rfl := Option.some.inj ho
      have h26 : (v 58) = .pointer (some ⟨sb, k * 11, none⟩) := hd ⟨26, .data⟩ (by simp) rfl _ 58 rfl rfl
      simp only [rbFr, h26] at hK ⊢
      go_simp
      exact hK _ _ hX (Below.refl _ _) rfl
    · obtain rfl := Option.some.inj ho
      simp only [rbFr] at hK ⊢
      go_simp
      exact hK _ _ hX (Below.refl _ _) rfl
    · obtain rfl := Option.some.inj ho
      have h28 : (v 60) = .pointer (some ⟨sb, k * 11, none⟩) := hd ⟨28, .data⟩ (by simp) rfl _ 60 rfl rfl
      simp only [rbFr, h28] at hK ⊢
      go_simp
      exact hK _ _ hX (Below.refl _ _) rfl
    · obtain rfl := Option.some.inj ho
      have h29 : (v 61) = .pointer (some ⟨sb, k * 11, none⟩) := hd ⟨29, .data⟩ (by simp) rfl _ 61 rfl rfl
      simp only [rbFr, h29] at hK ⊢
      go_simp
      exact hK _ _ hX (Below.refl _ _) rfl
    · obtain rfl := Option.some.inj ho
      simp only [rbFr] at hK ⊢
      go_simp
      exact hK _ _ hX (Below.refl _ _) rfl
    · obtain rfl := Option.some.inj ho
      have h31 : (v 63) = .pointer (some ⟨sb, k * 11, none⟩) := hd ⟨31, .data⟩ (by simp) rfl _ 63 rfl rfl
      simp only [rbFr, h31] at hK ⊢
      go_simp
      exact hK _ _ hX (Below.refl _ _) rfl
    · obtain rfl := Option.some.inj ho
      have h32 : (v 64) = .pointer (some ⟨sb, k * 11, none⟩) := hd ⟨32, .data⟩ (by simp) rfl _ 64 rfl rfl
      simp only [rbFr, h32] at hK ⊢
      go_simp
      exact hK _ _ hX (Below.refl _ _) rfl
    · obtain rfl := Option.some.inj ho
      simp only [rbFr] at hK ⊢
      go_simp
      exact hK _ _ hX (Below.refl _ _) rfl
    · obtain rfl := Option.some.inj ho
      have h34 : (v 66) = .pointer (some ⟨sb, k * 11, none⟩) := hd ⟨34, .data⟩ (by simp) rfl _ 66 rfl rfl
      simp only [rbFr, h34] at hK ⊢
      go_simp
      exact hK _ _ hX (Below.refl _ _) rfl
    · obtain rfl := Option.some.inj ho
      have h35 : (v 67) = .pointer (some ⟨sb, k * 11, none⟩) := hd ⟨35, .data⟩ (by simp) rfl _ 67 rfl rfl
      simp only [rbFr, h35] at hK ⊢
      go_simp
      exact hK _ _ hX (Below.refl _ _) rfl
    · obtain rfl := Option.some.inj ho
      simp only [rbFr] at hK ⊢
      go_simp
      exact hK _ _ hX (Below.refl _ _) rfl
    · obtain rfl := Option.some.inj ho
      have h37 : (v 69) = .pointer (some ⟨sb, k * 11, none⟩) := hd ⟨37, .data⟩ (by simp) rfl _ 69 rfl rfl
      simp only [rbFr, h37] at hK ⊢
      go_simp
      exact hK _ _ hX (Below.refl _ _) rfl
    · obtain rfl := Option.some.inj ho
      have h38 : (v 70) = .pointer (some ⟨sb, k * 11, none⟩) := hd ⟨38, .data⟩ (by simp) rfl _ 70 rfl rfl
      simp only [rbFr, h38] at hK ⊢
      go_simp
      exact hK _ _ hX (Below.refl _ _) rfl
    · obtain rfl := Option.some.inj ho
      simp only [rbFr] at hK ⊢
      go_simp
      exact hK _ _ hX (Below.refl _ _) rfl
    · obtain rfl := Option.some.inj ho
      have h40 : (v 72) = .pointer (some ⟨sb, k * 11, none⟩) := hd ⟨40, .data⟩ (by simp) rfl _ 72 rfl rfl
      simp only [rbFr, h40] at hK ⊢
      go_simp
      exact hK _ _ hX (Below.refl _ _) rfl
    · obtain rfl := Option.some.inj ho
      have h41 : (v 73) = .pointer (some ⟨sb, k * 11, none⟩) := hd ⟨41, .data⟩ (by simp) rfl _ 73 rfl rfl
      simp only [rbFr, h41] at hK ⊢
      go_simp
      exact hK _ _ hX (Below.refl _ _) rfl
    · obtain rfl := Option.some.inj ho
      simp only [rbFr] at hK ⊢
      go_simp
      exact hK _ _ hX (Below.refl _ _) rfl
    · obtain rfl := Option.some.inj ho
      have h43 : (v 75) = .pointer (some ⟨sb, k * 11, none⟩) := hd ⟨43, .data⟩ (by simp) rfl _ 75 rfl rfl
      simp only [rbFr, h43] at hK ⊢
      go_simp
      exact hK _ _ hX (Below.refl _ _) rfl
    · obtain rfl := Option.some.inj ho
      have h44 : (v 76) = .pointer (some ⟨sb, k * 11, none⟩) := hd ⟨44, .data⟩ (by simp) rfl _ 76 rfl rfl
      simp only [rbFr, h44] at hK ⊢
      go_simp
      exact hK _ _ hX (Below.refl _ _) rfl
    · obtain rfl := Option.some.inj ho
      have h0 : (v 32) = .pointer (some ⟨w2.heap.size, 0, none⟩) := hd ⟨0, .data⟩ (by simp) rfl _ 32 rfl rfl
      have h1 : (v 33) = .pointer (some ⟨w2.heap.size, 1, none⟩) := hd ⟨1, .data⟩ (by simp) rfl _ 33 rfl rfl
      have h2 : (v 34) = .pointer (some ⟨w2.heap.size, 2, none⟩) := hd ⟨2, .data⟩ (by simp) rfl _ 34 rfl rfl
      have h3 : (v 35) = .pointer (some ⟨w2.heap.size, 3, none⟩) := hd ⟨3, .data⟩ (by simp) rfl _ 35 rfl rfl
      have h4 : (v 36) = .pointer (some ⟨w2.heap.size, 4, none⟩) := hd ⟨4, .data⟩ (by simp) rfl _ 36 rfl rfl
      have h12 : (v 44) = .pointer (some ⟨eb, r, none⟩) := hd ⟨12, .data⟩ (by simp) rfl _ 44 rfl rfl
      have h15 : (v 47) = .pointer (some ⟨sb, k * 11, none⟩) := hd ⟨15, .data⟩ (by simp) rfl _ 47 rfl rfl
      have h18 : (v 50) = .pointer (some ⟨sb, k * 11 + 1, none⟩) := hd ⟨18, .data⟩ (by simp) rfl _ 50 rfl rfl
      have h21 : (v 53) = .pointer (some ⟨sb, k * 11 + 2, none⟩) := hd ⟨21, .data⟩ (by simp) rfl _ 53 rfl rfl
      have h24 : (v 56) = .pointer (some ⟨sb, k * 11 + 3, none⟩) := hd ⟨24, .data⟩ (by simp) rfl _ 56 rfl rfl
      have h27 : (v 59) = .pointer (some ⟨sb, k * 11 + 4, none⟩) := hd ⟨27, .data⟩ (by simp) rfl _ 59 rfl rfl
      have h30 : (v 62) = .pointer (some ⟨sb, k * 11 + 5, none⟩) := hd ⟨30, .data⟩ (by simp) rfl _ 62 rfl rfl
      have h33 : (v 65) = .pointer (some ⟨sb, k * 11 + 6, none⟩) := hd ⟨33, .data⟩ (by simp) rfl _ 65 rfl rfl
      have h36 : (v 68) = .pointer (some ⟨sb, k * 11 + 7, none⟩) := hd ⟨36, .data⟩ (by simp) rfl _ 68 rfl rfl
      have h39 : (v 71) = .pointer (some ⟨sb, k * 11 + 8, none⟩) := hd ⟨39, .data⟩ (by simp) rfl _ 71 rfl rfl
      have h42 : (v 74) = .pointer (some ⟨sb, k * 11 + 9, none⟩) := hd ⟨42, .data⟩ (by simp) rfl _ 74 rfl rfl
      have h45 : (v 77) = .pointer (some ⟨sb, k * 11 + 10, none⟩) := hd ⟨45, .data⟩ (by simp) rfl _ 77 rfl rfl
      simp only [rbFr, h0, h1, h2, h3, h4, h12, h15, h18, h21, h24, h27, h30, h33, h36, h39, h42, h45] at hK ⊢
      go_simp
      refine hK _ _ (below_alloc hX _) (below_alloc (Below.refl _ _) _) ⟨W1.heap.size, rfl, Blk.new _ _ _⟩
  case hend =>
    intro o L v W1 ho hX hF
    obtain rfl := Option.some.inj ho
    have h78 : ∃ b : Nat, (v 78) = .slice (some ⟨b, 0, none⟩) 17 17 ∧ Blk W1 b 47 #[.pointer (some ⟨w2.heap.size, 0, none⟩), .pointer (some ⟨w2.heap.size, 1, none⟩), .pointer (some ⟨w2.heap.size, 2, none⟩), .pointer (some ⟨w2.heap.size, 3, none⟩), .pointer (some ⟨w2.heap.size, 4, none⟩), .pointer (some ⟨eb, r, none⟩), .pointer (some ⟨sb, k * 11, none⟩), .pointer (some ⟨sb, k * 11 + 1, none⟩), .pointer (some ⟨sb, k * 11 + 2, none⟩), .pointer (some ⟨sb, k * 11 + 3, none⟩), .pointer (some ⟨sb, k * 11 + 4, none⟩), .pointer (some ⟨sb, k * 11 + 5, none⟩), .pointer (some ⟨sb, k * 11 + 6, none⟩), .pointer (some ⟨sb, k * 11 + 7, none⟩), .pointer (some ⟨sb, k * 11 + 8, none⟩), .pointer (some ⟨sb, k * 11 + 9, none⟩), .pointer (some ⟨sb, k * 11 + 10, none⟩)] := hF 46 _ 78 (by omega) rfl rfl
    obtain ⟨pl, h78, hL⟩ := h78
    have LB := Lib.hid hL
    have XB := Lib.hid hX
    have hLs := hL.lt
    clear hX hF hL ho
    simp only [rbFr, h78]
    go_simp
    generalize v 32 = v32, v 33 = v33, v 34 = v34, v 35 = v35, v 36 = v36, v 37 = v37, v 38 = v38, v 39 = v39, v 40 = v40, v 41 = v41, v 42 = v42, v 43 = v43, v 44 = v44, v 45 = v45, v 46 = v46, v 47 = v47, v 48 = v48, v 49 = v49, v 50 = v50, v 51 = v51, v 52 = v52, v 53 = v53, v 54 = v54, v 55 = v55, v 56 = v56, v 57 = v57, v 58 = v58, v 59 = v59, v 60 = v60, v 61 = v61, v 62 = v62, v 63 = v63, v 64 = v64, v 65 = v65, v 66 = v66, v 67 = v67, v 68 = v68, v 69 = v69, v 70 = v70, v 71 = v71, v 72 = v72, v 73 = v73, v 74 = v74, v 75 = v75, v 76 = v76, v 77 = v77
    go_wp2_with fail
    obtain ⟨W3, hW3⟩ : ∃ W3, W3 = W1 := ⟨_, rfl⟩
    rw [← hW3]
    have M3 := Lib.hid (show MS W3 w2.heap.size eb sb s c c' by rw [hW3]; exact M.out.keep XB.out (Nat.le_refl _))
    have B3 := Lib.hid (show Below w.heap.size w W3 by rw [hW3]; exact below_then BW.out XB.out)
    have L3 := Lib.hid (show Blk W3 pl 47 #[.pointer (some ⟨w2.heap.size, 0, none⟩), .pointer (some ⟨w2.heap.size, 1, none⟩), .pointer (some ⟨w2.heap.size, 2, none⟩), .pointer (some ⟨w2.heap.size, 3, none⟩), .pointer (some ⟨w2.heap.size, 4, none⟩), .pointer (some ⟨eb, r, none⟩), .pointer (some ⟨sb, k * 11, none⟩), .pointer (some ⟨sb, k * 11 + 1, none⟩), .pointer (some ⟨sb, k * 11 + 2, none⟩), .pointer (some ⟨sb, k * 11 + 3, none⟩), .pointer (some ⟨sb, k * 11 + 4, none⟩), .pointer (some ⟨sb, k * 11 + 5, none⟩), .pointer (some ⟨sb, k * 11 + 6, none⟩), .pointer (some ⟨sb, k * 11 + 7, none⟩), .pointer (some ⟨sb, k * 11 + 8, none⟩), .pointer (some ⟨sb, k * 11 + 9, none⟩), .pointer (some ⟨sb, k * 11 + 10, none⟩)] by rw [hW3]; exact LB.out)
    have hLs3 : pl < W3.heap.size := by rw [hW3]; exact hLs
    clear hW3 LB XB hLs
    obtain ⟨i17, hi17⟩ : ∃ i : Nat, wI which 17 = i := ⟨(wI which 17).toNat, by have := wI_in which (n := 17) (by omega); omega⟩
    have hi17l : i17 < 17 := by have := wI_in which (n := 17) (by omega); omega
    obtain ⟨j6, hj6'⟩ : ∃ i : Nat, wI val 6 = i := ⟨(wI val 6).toNat, by have := wI_in val (n := 6) (by omega); omega⟩
    have hj6 : j6 < 6 := by have := wI_in val (n := 6) (by omega); omega
    obtain ⟨u20, hu20⟩ : ∃ u, wI val 20 = u := ⟨_, rfl⟩
    have hu20l : 0 ≤ u20 ∧ u20 < 20 := by rw [← hu20]; exact wI_in val (by omega)
    have K3 := Lib.hid (show ∀ Z, Calls Tryz.prog 18 #[.int .i64 which, .int .i64 17] Z fun e w' => e = .returned (.int .i64 (i17 : Int)) ∧ w' = Z from fun Z => (Within_eq which 17 Z (by omega) (by omega)).mono fun _ _ h => ⟨by rw [← hi17]; exact h.1, h.2.symm⟩)
    have K4 := Lib.hid (show ∀ Z, Calls Tryz.prog 18 #[.int .i64 val, .int .i64 20] Z fun e w' => e = .returned (.int .i64 u20) ∧ w' = Z from fun Z => (Within_eq val 20 Z (by omega) (by omega)).mono fun _ _ h => ⟨by rw [← hu20]; exact h.1, h.2.symm⟩)
    have K5 := Lib.hid (show ∀ Z, Calls Tryz.prog 18 #[.int .i64 val, .int .i64 6] Z fun e w' => e = .returned (.int .i64 (j6 : Int)) ∧ w' = Z from fun Z => (Within_eq val 6 Z (by omega) (by omega)).mono fun _ _ h => ⟨by rw [← hj6']; exact h.1, h.2.symm⟩)
    clear hi17 hj6' hu20
    obtain ⟨pb, po, hPO, hcellp⟩ : ∃ pb po, PtrOk w2.heap.size eb sb s.errs.length s.steps.length ⟨pb, po, none⟩ ∧ W3.cell? ⟨pl, i17, none⟩ = some (.pointer (some ⟨pb, po, none⟩)) := by
      rw [L3.out.cell i17]
      exact ptr17 i17 hi17l hrl hkl
    have hpb : w.heap.size ≤ pb := by
      rcases hPO with ⟨j, hj, e⟩ | ⟨j, hj, e⟩ | ⟨i, j, hi, hj, e⟩
      · cases e; exact hw2.out
      · cases e; exact hEB.out
      · cases e; exact hSB.out
    have hptr : ∀ Z, Below W3.heap.size W3 Z → Z.cell? ⟨pl, i17, none⟩ = some (.pointer (some ⟨pb, po, none⟩)) := fun Z hZ => (hZ.cell (p := ⟨pl, i17, none⟩) hLs3).trans hcellp
    have e17 : (0 : Int) ≤ (i17 : Int) := by omega
    have e17' : (i17 : Int) < 17 := by omega
    have e6 : (0 : Int) ≤ (j6 : Int) := by omega
    have e6' : (j6 : Int) < 6 := by omega
    have e20 : IntKind.i64.wrap (u20 - 5) = u20 - 5 := IntWalk.i64_in _ (by omega)
    clear L3 hcellp hcells
    refine wp_region_facts (by kernel_rfl) (rcFr pl w.heap.size w2.heap.size eb sb c c' s.errs.length s.steps.length k r nt ct T which wher val s v32 v33 v34 v35 v36 v37 v38 v39 v40 v41 v42 v43 v44 v45 v46 v47 v48 v49 v50 v51 v52 v53 v54 v55 v56 v57 v58 v59 v60 v61 v62 v63 v64 v65 v66 v67 v68 v69 v70 v71 v72 v73 v74 v75 v76 v77) (fun _ => undef) (by rfl) (rcF pl i17 pb po j6 which val u20) (fun _ W1 => Below W3.heap.size W3 W1) (fun _ W1 W2 => Below W1.heap.size W1 W2) 17 (by rfl) ?hgl (by kernel_rfl) (by kernel_rfl) (by kernel_rfl) ?hX0 (fun i j x w1 w2 hij h k => rcF_keep h k) ?hdst ?hop ?hend
    case hX0 => exact Below.refl _ _ |> below_drew
    case hgl => intro o ho; obtain rfl := Option.some.inj ho; rfl
    case hdst =>
      intro i o hi ho
      obtain rfl | rfl | rfl | rfl | rfl | rfl | rfl | rfl | rfl | rfl | rfl | rfl | rfl | rfl | rfl | rfl | rfl : i = 0 ∨ i = 1 ∨ i = 2 ∨ i = 3 ∨ i = 4 ∨ i = 5 ∨ i = 6 ∨ i = 7 ∨ i = 8 ∨ i = 9 ∨ i = 10 ∨ i = 11 ∨ i = 12 ∨ i = 13 ∨ i = 14 ∨ i = 15 ∨ i = 16 := by omega
      all_goals
        obtain rfl := Option.some.inj ho
        exact ⟨_, rfl, rfl, fun _ _ => rfl⟩
    case hop =>
      intro i o L v W1 hi ho hu hX hd K hK
      obtain rfl | rfl | rfl | rfl | rfl | rfl | rfl | rfl | rfl | rfl | rfl | rfl | rfl | rfl | rfl | rfl | rfl : i = 0 ∨ i = 1 ∨ i = 2 ∨ i = 3 ∨ i = 4 ∨ i = 5 ∨ i = 6 ∨ i = 7 ∨ i = 8 ∨ i = 9 ∨ i = 10 ∨ i = 11 ∨ i = 12 ∨ i = 13 ∨ i = 14 ∨ i = 15 ∨ i = 16 := by omega
      · obtain rfl := Option.some.inj ho
        simp only [rcFr] at hK ⊢
        go_simp
        exact hK _ _ hX (Below.refl _ _) rfl
      · obtain rfl := Option.some.inj ho
        simp only [rcFr] at hK ⊢
        go_simp
        exact hK _ _ hX (Below.refl _ _) rfl
      · obtain rfl := Option.some.inj ho
        simp only [rcFr] at hK ⊢
        go_simp
        exact hK _ _ hX (Below.refl _ _) rfl
      · obtain rfl := Option.some.inj ho
        have h2 : (v 81) = .slice (some ⟨pl, 0, none⟩) 17 17 := hd ⟨2, .data⟩ (by simp) rfl _ 81 rfl rfl
        simp only [rcFr, h2] at hK ⊢
        go_simp
        exact hK _ _ hX (Below.refl _ _) rfl
      · obtain rfl := Option.some.inj ho
        have h1 : (v 80) = .int .i64 which := hd ⟨1, .data⟩ (by simp) rfl _ 80 rfl rfl
        have h3 : (v 82) = .int .i64 17 := hd ⟨3, .data⟩ (by simp) rfl _ 82 rfl rfl
        simp only [rcFr, h1, h3] at hK ⊢
        go_simp
        refine (K3.out W1).mono ?_
        rintro e w9 ⟨rfl, rfl⟩
        exact hK _ _ hX (Below.refl _ _) rfl
      · obtain rfl := Option.some.inj ho
        have h0 : (v 79) = .slice (some ⟨pl, 0, none⟩) 17 17 := hd ⟨0, .data⟩ (by simp) rfl _ 79 rfl rfl
        have h4 : (v 83) = .int .i64 (i17 : Int) := hd ⟨4, .data⟩ (by simp) rfl _ 83 rfl rfl
        simp only [rcFr, h0, h4] at hK ⊢
        go_simp
        exact hK _ _ hX (Below.refl _ _) rfl
      · obtain rfl := Option.some.inj ho
        have h5 : (v 84) = .pointer (some ⟨pl, i17, none⟩) := hd ⟨5, .data⟩ (by simp) rfl _ 84 rfl rfl
        have y0 := hptr W1 hX
        have y1 := Nat.lt_of_lt_of_le hLs3 hX.size
        simp only [rcFr, h5] at hK ⊢
        go_simp
        exact hK _ _ hX (Below.refl _ _) rfl
      · obtain rfl := Option.some.inj ho
        simp only [rcFr] at hK ⊢
        go_simp
        exact hK _ _ hX (Below.refl _ _) rfl
      · obtain rfl := Option.some.inj ho
        simp only [rcFr] at hK ⊢
        go_simp
        exact hK _ _ hX (Below.refl _ _) rfl
      · obtain rfl := Option.some.inj ho
        have h8 : (v 87) = .int .i64 val := hd ⟨8, .data⟩ (by simp) rfl _ 87 rfl rfl
        simp only [rcFr, h8] at hK ⊢
        go_simp
        refine (K4.out W1).mono ?_
        rintro e w9 ⟨rfl, rfl⟩
        exact hK _ _ hX (Below.refl _ _) rfl
      · obtain rfl := Option.some.inj ho
        have h9 : (v 88) = .int .i64 u20 := hd ⟨9, .data⟩ (by simp) rfl _ 88 rfl rfl
        simp only [rcFr, h9] at hK ⊢
        go_simp
        exact hK _ _ hX (Below.refl _ _) rfl
      · obtain rfl := Option.some.inj ho
        have h7 : (v 86) = .int .i64 val := hd ⟨7, .data⟩ (by simp) rfl _ 86 rfl rfl
        have h10 : (v 89) = .int .i64 (u20 - 5) := hd ⟨10, .data⟩ (by simp) rfl _ 89 rfl rfl
        simp only [rcFr, h7, h10] at hK ⊢
        go_simp
        exact hK _ _ (below_alloc hX _) (below_alloc (Below.refl _ _) _) ⟨W1.heap.size, rfl, Blk.new _ _ _⟩
      · obtain rfl := Option.some.inj ho
        simp only [rcFr] at hK ⊢
        go_simp
        exact hK _ _ hX (Below.refl _ _) rfl
      · obtain rfl := Option.some.inj ho
        have h12 : (v 91) = .int .i64 val := hd ⟨12, .data⟩ (by simp) rfl _ 91 rfl rfl
        simp only [rcFr, h12] at hK ⊢
        go_simp
        refine (K5.out W1).mono ?_
        rintro e w9 ⟨rfl, rfl⟩
        exact hK _ _ hX (Below.refl _ _) rfl
      · obtain rfl := Option.some.inj ho
        have h11 : ∃ b : Nat, (v 90) = .slice (some ⟨b, 0, none⟩) 6 6 ∧ Blk W1 b 3 #[.int .i64 val, .int .i64 (u20 - 5), .int .i64 1125899906842624, .int .i64 1125899906842625, .int .i64 (-1125899906842624), .int .i64 (-1125899906842625)] := hd ⟨11, .data⟩ (by simp) rfl _ 90 rfl rfl
        have h13 : (v 92) = .int .i64 (j6 : Int) := hd ⟨13, .data⟩ (by simp) rfl _ 92 rfl rfl
        obtain ⟨b, h11, hb6⟩ := h11
        simp only [rcFr, h11, h13] at hK ⊢
        go_simp
        exact hK _ _ hX (Below.refl _ _) ⟨b, rfl, hb6⟩
      · obtain rfl := Option.some.inj ho
        have h14 : ∃ b : Nat, (v 93) = .pointer (some ⟨b, j6, none⟩) ∧ Blk W1 b 3 #[.int .i64 val, .int .i64 (u20 - 5), .int .i64 1125899906842624, .int .i64 1125899906842625, .int .i64 (-1125899906842624), .int .i64 (-1125899906842625)] := hd ⟨14, .data⟩ (by simp) rfl _ 93 rfl rfl
        obtain ⟨b, h14, hb6⟩ := h14
        have hbl := hb6.lt
        obtain ⟨u, hu6⟩ := cell6 hb6 hj6
        simp only [rcFr, h14] at hK ⊢
        go_simp
        exact hK _ _ hX (Below.refl _ _) ⟨u, rfl⟩
      · obtain rfl := Option.some.inj ho
        have h6 : (v 85) = .pointer (some ⟨pb, po, none⟩) := hd ⟨6, .data⟩ (by simp) rfl _ 85 rfl rfl
        simp only [rcFr, h6] at hK ⊢
        go_simp
        exact hK _ _ hX (Below.refl _ _) rfl
    case hend =>
      intro o L v W1 ho hX hF
      obtain rfl := Option.some.inj ho
      have h94 : ∃ u : Int, (v 94) = .int .i64 u := hF 15 _ 94 (by omega) rfl rfl
      have h95 : (v 95) = .pointer (some ⟨pb, po, none⟩) := hF 16 _ 95 (by omega) rfl rfl
      obtain ⟨u, h94⟩ := h94
      have M4 := M3.out.keep hX (Nat.le_refl _)
      obtain ⟨⟨u0, hu0⟩, hfz, hpl⟩ := M4.cell hPO
      obtain ⟨s2, hM5⟩ := M4.put hPO u
      obtain ⟨Wn, hWn⟩ : ∃ Wn, Wn = W1.setCell ⟨pb, po, none⟩ (.int .i64 u) := ⟨_, rfl⟩
      have MN := Lib.hid (show MS Wn w2.heap.size eb sb s2 c c' by rw [hWn]; exact hM5)
      have BN := Lib.hid (show Below w.heap.size w Wn by rw [hWn]; exact below_set (B3.out.trans (hX.mono B3.out.size)) hpb _)
      clear hX hF M4 hM5 ho
      simp only [rcFr, h94, h95]
      go_simp
      rw [← hWn]
      clear hWn hu0 hfz hpl h94 h95
      generalize v 79 = v79, v 80 = v80, v 81 = v81, v 82 = v82, v 83 = v83, v 84 = v84, v 85 = v85, v 86 = v86, v 87 = v87, v 88 = v88, v 89 = v89, v 90 = v90, v 91 = v91, v 92 = v92, v 93 = v93
      have IN := Lib.hid MN.out.in
      have D0 := Lib.hid (Below.refl Wn.heap.size Wn)
      have Q0 := Lib.hid MN.out.blk
      have hq0 := Q0.out.lt
      clear MN
      obtain ⟨x0, x1, x2, x3, x4, x5, x6⟩ := blk7 Q0.out
      go_wp2_with fail
      refine (rRun_ok s2 (some ⟨eb, 0, none⟩) (some ⟨sb, 0, none⟩) c c' _ Wn.heap.size D0.out.size (IN.out.e.keep fun b0 o hlt0 => D0.out.cell (p := ⟨b0, o, none⟩) hlt0) (IN.out.t.keep fun b0 o hlt0 => D0.out.cell (p := ⟨b0, o, none⟩) hlt0)).mono ?_
      rintro e y1 ⟨Y1, k1, rfl, r1, bb⟩
      have R1 := Lib.hid r1
      clear r1
      have D1 := Lib.hid (below_then D0.out bb)
      have Q1 := Lib.hid (Q0.out.keep bb)
      clear bb x0 x1 x2 x3 x4 x5 x6 D0 Q0
      obtain ⟨x0, x1, x2, x3, x4, x5, x6⟩ := blk7 Q1.out
      have hq1 := Q1.out.lt
      go_wp2_with fail
      refine (rLies_ok s2 (some ⟨eb, 0, none⟩) (some ⟨sb, 0, none⟩) c c' _ Wn.heap.size D1.out.size (IN.out.e.keep fun b0 o hlt0 => D1.out.cell (p := ⟨b0, o, none⟩) hlt0) (IN.out.t.keep fun b0 o hlt0 => D1.out.cell (p := ⟨b0, o, none⟩) hlt0)).mono ?_
      rintro e y2 ⟨Y2, k2, rfl, r2, bb⟩
      have R1 := Lib.hid ((R1.out.below bb (Nat.le_refl _)).more bb.size)
      have R2 := Lib.hid r2
      clear r2
      have D2 := Lib.hid (below_then D1.out bb)
      have Q2 := Lib.hid (Q1.out.keep bb)
      clear bb x0 x1 x2 x3 x4 x5 x6 D1 Q1
      obtain ⟨x0, x1, x2, x3, x4, x5, x6⟩ := blk7 Q2.out
      have hq2 := Q2.out.lt
      go_wp2_with fail
      refine (rCheck_ok s2 (some ⟨eb, 0, none⟩) (some ⟨sb, 0, none⟩) c c' _ Wn.heap.size D2.out.size (IN.out.e.keep fun b0 o hlt0 => D2.out.cell (p := ⟨b0, o, none⟩) hlt0) (IN.out.t.keep fun b0 o hlt0 => D2.out.cell (p := ⟨b0, o, none⟩) hlt0)).mono ?_
      rintro e y3 ⟨rfl, bb⟩
      have R1 := Lib.hid ((R1.out.below bb (Nat.le_refl _)).more bb.size)
      have R2 := Lib.hid ((R2.out.below bb (Nat.le_refl _)).more bb.size)
      have D3 := Lib.hid (below_then D2.out bb)
      have Q3 := Lib.hid (Q2.out.keep bb)
      clear bb x0 x1 x2 x3 x4 x5 x6 D2 Q2
      obtain ⟨x0, x1, x2, x3, x4, x5, x6⟩ := blk7 Q3.out
      have hq3 := Q3.out.lt
      go_wp2_with fail
      refine (copied_ok s2 (some ⟨eb, 0, none⟩) (some ⟨sb, 0, none⟩) c c' _ Wn.heap.size D3.out.size (IN.out.e.keep fun b0 o hlt0 => D3.out.cell (p := ⟨b0, o, none⟩) hlt0) (IN.out.t.keep fun b0 o hlt0 => D3.out.cell (p := ⟨b0, o, none⟩) hlt0) IN.out.n IN.out.m).mono ?_
      rintro e y4 ⟨A4, c4, B4x, d4, rfl, r4, s4, bb⟩
      have R1 := Lib.hid ((R1.out.below bb (Nat.le_refl _)).more bb.size)
      have R2 := Lib.hid ((R2.out.below bb (Nat.le_refl _)).more bb.size)
      have R4 := Lib.hid r4
      have S4 := Lib.hid s4
      clear r4 s4
      have D4 := Lib.hid (below_then D3.out bb)
      have Q4 := Lib.hid (Q3.out.keep bb)
      clear bb x0 x1 x2 x3 x4 x5 x6 D3 Q3
      obtain ⟨x0, x1, x2, x3, x4, x5, x6⟩ := blk7 Q4.out
      have hq4 := Q4.out.lt
      go_wp2_with fail
      refine (Run_ok s2 A4 B4x c4 d4 _ _ (Nat.le_refl _) R4.out S4.out).mono ?_
      rintro e y5 ⟨Y5, k5, rfl, r5, bb⟩
      clear R4 S4
      have R1 := Lib.hid ((R1.out.below bb (Nat.le_refl _)).more bb.size)
      have R2 := Lib.hid ((R2.out.below bb (Nat.le_refl _)).more bb.size)
      have R5 := Lib.hid r5
      clear r5
      have D5 := Lib.hid (below_then D4.out bb)
      have Q5 := Lib.hid (Q4.out.keep bb)
      clear bb x0 x1 x2 x3 x4 x5 x6 D4 Q4
      obtain ⟨x0, x1, x2, x3, x4, x5, x6⟩ := blk7 Q5.out
      have hq5 := Q5.out.lt
      go_wp2_with fail
      refine (copied_ok s2 (some ⟨eb, 0, none⟩) (some ⟨sb, 0, none⟩) c c' _ Wn.heap.size D5.out.size (IN.out.e.keep fun b0 o hlt0 => D5.out.cell (p := ⟨b0, o, none⟩) hlt0) (IN.out.t.keep fun b0 o hlt0 => D5.out.cell (p := ⟨b0, o, none⟩) hlt0) IN.out.n IN.out.m).mono ?_
      rintro e y6 ⟨A6, c6, B6x, d6, rfl, r6, s6, bb⟩
      have R1 := Lib.hid ((R1.out.below bb (Nat.le_refl _)).more bb.size)
      have R2 := Lib.hid ((R2.out.below bb (Nat.le_refl _)).more bb.size)
      have R5 := Lib.hid ((R5.out.below bb (Nat.le_refl _)).more bb.size)
      have R6 := Lib.hid r6
      have S6 := Lib.hid s6
      clear r6 s6
      have D6 := Lib.hid (below_then D5.out bb)
      have Q6 := Lib.hid (Q5.out.keep bb)
      clear bb x0 x1 x2 x3 x4 x5 x6 D5 Q5
      obtain ⟨x0, x1, x2, x3, x4, x5, x6⟩ := blk7 Q6.out
      have hq6 := Q6.out.lt
      go_wp2_with fail
      refine (Lies_ok s2 A6 B6x c6 d6 _ _ (Nat.le_refl _) R6.out S6.out).mono ?_
      rintro e y7 ⟨Y7, k7, rfl, r7, bb⟩
      clear R6 S6
      have R1 := Lib.hid ((R1.out.below bb (Nat.le_refl _)).more bb.size)
      have R2 := Lib.hid ((R2.out.below bb (Nat.le_refl _)).more bb.size)
      have R5 := Lib.hid ((R5.out.below bb (Nat.le_refl _)).more bb.size)
      have R7 := Lib.hid r7
      clear r7
      have D7 := Lib.hid (below_then D6.out bb)
      have Q7 := Lib.hid (Q6.out.keep bb)
      clear bb x0 x1 x2 x3 x4 x5 x6 D6 Q6
      obtain ⟨x0, x1, x2, x3, x4, x5, x6⟩ := blk7 Q7.out
      have hq7 := Q7.out.lt
      go_wp2_with fail
      refine (known_ok _).mono ?_
      rintro e y8 ⟨rfl, bb⟩
      have R1 := Lib.hid ((R1.out.below bb (Nat.le_refl _)).more bb.size)
      have R2 := Lib.hid ((R2.out.below bb (Nat.le_refl _)).more bb.size)
      have R5 := Lib.hid ((R5.out.below bb (Nat.le_refl _)).more bb.size)
      have R7 := Lib.hid ((R7.out.below bb (Nat.le_refl _)).more bb.size)
      have D8 := Lib.hid (below_then D7.out bb)
      have Q8 := Lib.hid (Q7.out.keep bb)
      clear bb x0 x1 x2 x3 x4 x5 x6 D7 Q7
      obtain ⟨x0, x1, x2, x3, x4, x5, x6⟩ := blk7 Q8.out
      have hq8 := Q8.out.lt
      go_wp2_with fail
      refine (copied_ok s2 (some ⟨eb, 0, none⟩) (some ⟨sb, 0, none⟩) c c' _ Wn.heap.size D8.out.size (IN.out.e.keep fun b0 o hlt0 => D8.out.cell (p := ⟨b0, o, none⟩) hlt0) (IN.out.t.keep fun b0 o hlt0 => D8.out.cell (p := ⟨b0, o, none⟩) hlt0) IN.out.n IN.out.m).mono ?_
      rintro e y9 ⟨A8, c8, B8x, d8, rfl, r8, s8, bb⟩
      have R1 := Lib.hid ((R1.out.below bb (Nat.le_refl _)).more bb.size)
      have R2 := Lib.hid ((R2.out.below bb (Nat.le_refl _)).more bb.size)
      have R5 := Lib.hid ((R5.out.below bb (Nat.le_refl _)).more bb.size)
      have R7 := Lib.hid ((R7.out.below bb (Nat.le_refl _)).more bb.size)
      have R8 := Lib.hid r8
      have S8 := Lib.hid s8
      clear r8 s8
      have D9 := Lib.hid (below_then D8.out bb)
      have Q9 := Lib.hid (Q8.out.keep bb)
      clear bb x0 x1 x2 x3 x4 x5 x6 D8 Q8
      obtain ⟨x0, x1, x2, x3, x4, x5, x6⟩ := blk7 Q9.out
      have hq9 := Q9.out.lt
      go_wp2_with fail
      refine (Check_ok s2 A8 B8x c8 d8 _ _ (Nat.le_refl _) R8.out S8.out).mono ?_
      rintro e y10 ⟨rfl, bb⟩
      clear R8 S8
      have R1 := Lib.hid ((R1.out.below bb (Nat.le_refl _)).more bb.size)
      have R2 := Lib.hid ((R2.out.below bb (Nat.le_refl _)).more bb.size)
      have R5 := Lib.hid ((R5.out.below bb (Nat.le_refl _)).more bb.size)
      have R7 := Lib.hid ((R7.out.below bb (Nat.le_refl _)).more bb.size)
      have D10 := Lib.hid (below_then D9.out bb)
      have Q10 := Lib.hid (Q9.out.keep bb)
      clear bb x0 x1 x2 x3 x4 x5 x6 D9 Q9
      obtain ⟨x0, x1, x2, x3, x4, x5, x6⟩ := blk7 Q10.out
      have hq10 := Q10.out.lt
      go_wp2_with fail
      refine (SameR_ok Y5 Y1 _ k5 k1 s2.run _ _ (Nat.le_refl _) R5.out R1.out).mono ?_
      rintro e y11 ⟨rfl, bb⟩
      clear R5 R1
      have R2 := Lib.hid ((R2.out.below bb (Nat.le_refl _)).more bb.size)
      have R7 := Lib.hid ((R7.out.below bb (Nat.le_refl _)).more bb.size)
      have D11 := Lib.hid (below_then D10.out bb)
      have Q11 := Lib.hid (Q10.out.keep bb)
      clear bb x0 x1 x2 x3 x4 x5 x6 D10 Q10
      obtain ⟨x0, x1, x2, x3, x4, x5, x6⟩ := blk7 Q11.out
      have hq11 := Q11.out.lt
      go_wp2_with fail
      refine (SameI_ok Y7 Y2 _ k7 k2 s2.lies _ _ (Nat.le_refl _) R7.out R2.out).mono ?_
      rintro e y12 ⟨rfl, bb⟩
      clear R7 R2
      have D12 := Lib.hid (below_then D11.out bb)
      have Q12 := Lib.hid (Q11.out.keep bb)
      clear bb x0 x1 x2 x3 x4 x5 x6 D11 Q11
      obtain ⟨x0, x1, x2, x3, x4, x5, x6⟩ := blk7 Q12.out
      have hq12 := Q12.out.lt
      go_wp2
      go_ret
      exact ⟨rfl, below_then BN.out D12.out⟩
end Go.Proofs.YtnafhblioabkgaaGreat
