/- The sweep over sorted events is the walk over the cuts: plain lists, no program in sight. -/
namespace Go.Proofs.YtnafhblioabkgaaGreat.Sw
abbrev Sp := Int × Int
abbrev Pc := Int × Int × Int

def cnt (l : List Sp) (t : Int) : Int := ((l.filter fun s => decide (s.1 ≤ t ∧ t ≤ s.2)).length : Int)
def evs (l : List Sp) : List (Int × Int) := l.flatMap fun s => [(s.1, 1), (s.2 + 1, -1)]
def sumBy : List (Int × Int) → Int
  | [] => 0
  | x :: r => x.2 + sumBy r
theorem sumBy_append (a b : List (Int × Int)) : sumBy (a ++ b) = sumBy a + sumBy b := by
  induction a with
  | nil => simp [sumBy]
  | cons x r ih => simp only [List.cons_append, sumBy, ih]; omega
theorem sumBy_perm {a b : List (Int × Int)} (h : a.Perm b) : sumBy a = sumBy b := by
  induction h with
  | nil => rfl
  | cons x _ ih => simp only [sumBy, ih]
  | swap x y l => simp only [sumBy]; omega
  | trans _ _ h1 h2 => exact h1.trans h2

/-- pieces are pushed by an arbitrary function -/
def goE {β : Type} (push : β → Int → Int → Int → β) : List (Int × Int) → Int → β → β
  | [], _, out => out
  | [_], _, out => out
  | x :: y :: r, c, out => if c + x.2 = 0 ∨ y.1 = x.1 then goE push (y :: r) (c + x.2) out else goE push (y :: r) (c + x.2) (push out x.1 (y.1 - 1) (c + x.2))

def goC {β : Type} (push : β → Int → Int → Int → β) (n : Int → Int) : List Int → β → β
  | [], out => out
  | [_], out => out
  | x :: y :: r, out => if n x = 0 then goC push n (y :: r) out else goC push n (y :: r) (push out x (y - 1) (n x))

def ded : List Int → List Int
  | [] => []
  | [x] => [x]
  | x :: y :: r => if x = y then ded (y :: r) else x :: ded (y :: r)

theorem ded_head (x : Int) (r : List Int) : ∃ t, ded (x :: r) = x :: t := by
  induction r generalizing x with
  | nil => exact ⟨[], rfl⟩
  | cons y r ih =>
    simp only [ded]
    split
    · next h => subst h; exact ih x
    · exact ⟨_, rfl⟩
theorem ded_mem (l : List Int) (t : Int) : t ∈ ded l ↔ t ∈ l := by
  induction l with
  | nil => simp [ded]
  | cons x r ih =>
    cases r with
    | nil => simp [ded]
    | cons y r =>
      simp only [ded]
      split
      · next h => subst h; rw [ih]; simp
      · rw [List.mem_cons, ih]; simp
theorem ded_strict (l : List Int) (h : l.Pairwise (· ≤ ·)) : (ded l).Pairwise (· < ·) := by
  induction l with
  | nil => simp [ded]
  | cons x r ih =>
    cases r with
    | nil => simp [ded]
    | cons y r =>
      simp only [ded]
      have hp := (List.pairwise_cons.1 h).2
      have hx := (List.pairwise_cons.1 h).1
      split
      · exact ih hp
      · next hne =>
        refine List.pairwise_cons.2 ⟨fun z hz => ?_, ih hp⟩
        rw [ded_mem] at hz
        have h1 := hx y (by simp)
        have h2 : y ≤ z := by
          rcases List.mem_cons.1 hz with rfl | hz
          · omega
          · exact (List.pairwise_cons.1 hp).1 z hz
        omega

theorem sum_le (l : List Sp) (hv : ∀ s ∈ l, s.1 ≤ s.2) (t : Int) : sumBy ((evs l).filter fun e => decide (e.1 ≤ t)) = cnt l t := by
  induction l with
  | nil => rfl
  | cons s l ih =>
    have h1 := ih fun z hz => hv z (by simp [hz])
    have h2 := hv s (by simp)
    have e : evs (s :: l) = [(s.1, 1), (s.2 + 1, -1)] ++ evs l := rfl
    rw [e, List.filter_append, sumBy_append, h1]
    unfold cnt
    by_cases c1 : s.1 ≤ t
    · by_cases c2 : s.2 + 1 ≤ t
      · have c3 : ¬ t ≤ s.2 := by omega
        simp [c1, c2, c3, sumBy]
      · have c3 : t ≤ s.2 := by omega
        simp [c1, c2, c3, sumBy]; omega
    · have c2 : ¬ s.2 + 1 ≤ t := by omega
      simp [c1, c2, sumBy]

theorem goE_goC {β : Type} (push : β → Int → Int → Int → β) (l : List Sp) (hv : ∀ s ∈ l, s.1 ≤ s.2) (E : List (Int × Int)) :
    ∀ (pre : List (Int × Int)) (c : Int) (out : β), (pre ++ E).Perm (evs l) → (pre ++ E).Pairwise (fun a b => a.1 ≤ b.1) → c = sumBy pre →
    goE push E c out = goC push (cnt l) (ded (E.map (·.1))) out := by
  induction E with
  | nil => intro pre c out _ _ _; rfl
  | cons x E ih =>
    intro pre c out hp hs hc
    cases E with
    | nil => rfl
    | cons y r =>
      have hp' : ((pre ++ [x]) ++ y :: r).Perm (evs l) := by simpa using hp
      have hs' : ((pre ++ [x]) ++ y :: r).Pairwise (fun a b => a.1 ≤ b.1) := by simpa using hs
      have hc' : c + x.2 = sumBy (pre ++ [x]) := by rw [sumBy_append, ← hc]; simp [sumBy]
      have ih' := fun out => ih (pre ++ [x]) (c + x.2) out hp' hs' hc'
      have hxy : x.1 ≤ y.1 := by
        have := (List.pairwise_append.1 hs).2.1
        exact (List.pairwise_cons.1 this).1 y (by simp)
      simp only [goE, List.map_cons, ded]
      by_cases e : x.1 = y.1
      · rw [if_pos (Or.inr e.symm), if_pos e, ih']; rfl
      · rw [if_neg e]
        obtain ⟨t, ht⟩ := ded_head y.1 (r.map (·.1))
        have hcnt : c + x.2 = cnt l x.1 := by
          rw [hc', ← sum_le l hv x.1, ← sumBy_perm (hp'.filter _)]
          rw [List.filter_append]
          have f1 : (pre ++ [x]).filter (fun e => decide (e.1 ≤ x.1)) = pre ++ [x] := by
            rw [List.filter_eq_self]
            intro a ha
            rcases List.mem_append.1 ha with ha | ha
            · have := (List.pairwise_append.1 hs).2.2 a ha x (by simp); simpa using this
            · simp at ha; subst ha; simp
          have f2 : (y :: r).filter (fun e => decide (e.1 ≤ x.1)) = [] := by
            rw [List.filter_eq_nil_iff]
            intro a ha
            have h1 : y.1 ≤ a.1 := by
              have h2 := (List.pairwise_append.1 hs').2.1
              rcases List.mem_cons.1 ha with rfl | ha
              · omega
              · exact (List.pairwise_cons.1 h2).1 a ha
            simp; omega
          rw [f1, f2]; simp
        have ih2 := fun out => (ih' out)
        simp only [List.map_cons, ht] at ih2 ⊢
        rw [goC, ← hcnt]
        by_cases z : c + x.2 = 0
        · rw [if_pos (Or.inl z), if_pos z, ih2]
        · rw [if_neg (by omega), if_neg z, ih2]

/-- put a number into an ascending list, if it is not there -/
def put : List Int → Int → List Int
  | [], v => [v]
  | x :: r, v => if x < v then x :: put r v else if x = v then x :: r else v :: x :: r
theorem put_mem (l : List Int) (v t : Int) : t ∈ put l v ↔ t = v ∨ t ∈ l := by
  induction l with
  | nil => simp [put]
  | cons x r ih =>
    simp only [put]
    split
    · rw [List.mem_cons, ih, List.mem_cons]; exact or_left_comm
    · split
      · next h => subst h; simp
      · simp
theorem put_strict (l : List Int) (v : Int) (h : l.Pairwise (· < ·)) : (put l v).Pairwise (· < ·) := by
  induction l with
  | nil => simp [put]
  | cons x r ih =>
    have h1 := List.pairwise_cons.1 h
    simp only [put]
    split
    · next hlt =>
      refine List.pairwise_cons.2 ⟨fun z hz => ?_, ih h1.2⟩
      rcases (put_mem r v z).1 hz with rfl | hz
      · exact hlt
      · exact h1.1 z hz
    · split
      · exact h
      · refine List.pairwise_cons.2 ⟨fun z hz => ?_, h⟩
        rcases List.mem_cons.1 hz with rfl | hz
        · omega
        · have := h1.1 z hz; omega
def cuts : List Sp → List Int := fun l => l.foldl (fun c s => put (put c s.1) (s.2 + 1)) []
theorem strict_unique : ∀ (a b : List Int), a.Pairwise (· < ·) → b.Pairwise (· < ·) → (∀ t, t ∈ a ↔ t ∈ b) → a = b := by
  intro a
  induction a with
  | nil => intro b _ _ h; cases b with
    | nil => rfl
    | cons y r => exact absurd ((h y).2 (by simp)) (by simp)
  | cons x r ih =>
    intro b ha hb h
    cases b with
    | nil => exact absurd ((h x).1 (by simp)) (by simp)
    | cons y s =>
      have ha' := List.pairwise_cons.1 ha
      have hb' := List.pairwise_cons.1 hb
      have hxy : x = y := by
        rcases List.mem_cons.1 ((h x).1 (by simp)) with e | e
        · exact e
        · rcases List.mem_cons.1 ((h y).2 (by simp)) with e' | e'
          · exact e'.symm
          · have := hb'.1 x e; have := ha'.1 y e'; omega
      subst hxy
      congr 1
      refine ih s ha'.2 hb'.2 fun t => ⟨fun ht => ?_, fun ht => ?_⟩
      · rcases List.mem_cons.1 ((h t).1 (by simp [ht])) with e | e
        · have := ha'.1 t ht; omega
        · exact e
      · rcases List.mem_cons.1 ((h t).2 (by simp [ht])) with e | e
        · have := hb'.1 t ht; omega
        · exact e
theorem cuts_fold (l : List Sp) : ∀ c : List Int, c.Pairwise (· < ·) →
    (l.foldl (fun c s => put (put c s.1) (s.2 + 1)) c).Pairwise (· < ·) ∧ ∀ t, t ∈ l.foldl (fun c s => put (put c s.1) (s.2 + 1)) c ↔ t ∈ c ∨ t ∈ (evs l).map (·.1) := by
  induction l with
  | nil => intro c h; exact ⟨h, fun t => by simp [evs]⟩
  | cons s l ih =>
    intro c h
    obtain ⟨h1, h2⟩ := ih _ (put_strict _ (s.2 + 1) (put_strict _ s.1 h))
    refine ⟨h1, fun t => ?_⟩
    have e : evs (s :: l) = [(s.1, 1), (s.2 + 1, -1)] ++ evs l := rfl
    rw [List.foldl_cons, h2, put_mem, put_mem, e]
    simp only [List.map_append, List.mem_append, List.map_cons, List.map_nil, List.mem_cons, List.not_mem_nil, or_false]
    constructor
    · rintro ((h | h | h) | h) <;> simp [h]
    · rintro (h | (h | h) | h) <;> simp [h]
theorem cuts_eq (l : List Sp) (E : List (Int × Int)) (hp : E.Perm (evs l)) (hs : E.Pairwise (fun a b => a.1 ≤ b.1)) : ded (E.map (·.1)) = cuts l := by
  obtain ⟨h1, h2⟩ := cuts_fold l [] List.Pairwise.nil
  refine strict_unique _ _ (ded_strict _ (by rw [List.pairwise_map]; exact hs)) h1 fun t => ?_
  rw [ded_mem]
  show t ∈ _ ↔ t ∈ l.foldl _ []
  rw [h2, (hp.map _).mem_iff]; simp
/-- the sweep over sorted events is the walk over the cuts -/
theorem sweep {β : Type} (push : β → Int → Int → Int → β) (l : List Sp) (hv : ∀ s ∈ l, s.1 ≤ s.2) (E : List (Int × Int))
    (hp : E.Perm (evs l)) (hs : E.Pairwise (fun a b => a.1 ≤ b.1)) (out : β) : goE push E 0 out = goC push (cnt l) (cuts l) out := by
  rw [goE_goC push l hv E [] 0 out (by simpa using hp) (by simpa using hs) rfl, cuts_eq l E hp hs]
end Go.Proofs.YtnafhblioabkgaaGreat.Sw
