/- The playing of a schedule, in plain numbers; its bounds. No program in sight. -/
import Derived.Test.YtnafhblioabkgaaGreatOk
import Derived.Test.YtnafhblioabkgaaGreatMerge
namespace Go.Proofs.YtnafhblioabkgaaGreat

/-! What most spans agree on lies between their ends. -/
theorem set_last {α : Type} (out : List α) (z z' : α) (h : out[out.length - 1]? = some z) : ∃ pre, out = pre ++ [z] ∧ out.set (out.length - 1) z' = pre ++ [z'] := by
  have hne : out ≠ [] := by intro h0; subst h0; simp at h
  refine ⟨out.dropLast, ?_, ?_⟩
  · have h1 := List.dropLast_concat_getLast hne
    have h2 : out.getLast hne = z := by
      rw [List.getLast_eq_getElem]
      rw [List.getElem?_eq_getElem (by have := List.length_pos_iff.2 hne; omega)] at h
      exact Option.some.inj h
    rw [h2] at h1
    exact h1.symm
  · have h1 := List.dropLast_concat_getLast hne
    generalize hl : out.getLast hne = y at h1
    generalize out.dropLast = pre at h1
    subst h1
    simp

structure PcOk (m M : Int) (out : List (Int × Int × Int)) : Prop where
  b : ∀ z ∈ out, m ≤ z.1 ∧ z.1 ≤ z.2.1 ∧ z.2.1 ≤ M
  o : out.Pairwise (fun a b => a.1 ≤ b.2.1)
theorem PcOk.push {m M : Int} {out : List (Int × Int × Int)} {lo hi n : Int} (h : PcOk m (lo - 1) out) (h0 : m ≤ lo) (h1 : lo ≤ hi) (h2 : hi ≤ M) : PcOk m M (pushP out lo hi n) := by
  have ha : PcOk m M (out ++ [(lo, hi, n)]) := by
    refine ⟨fun z hz => ?_, ?_⟩
    · rcases List.mem_append.1 hz with hz | hz
      · have := h.b z hz; omega
      · simp at hz; subst hz; exact ⟨h0, h1, h2⟩
    · rw [List.pairwise_append]
      refine ⟨h.o, by simp, fun a ha b hb => ?_⟩
      simp at hb; subst hb
      have := h.b a ha
      show a.1 ≤ hi
      omega
  unfold pushP
  split
  · next z hz =>
    split
    · next hj =>
      obtain ⟨pre, e1, e2⟩ := set_last out z (z.1, hi, z.2.2) hz
      rw [e2]
      rw [e1] at h
      have hb := h.b
      have ho := List.pairwise_append.1 h.o
      refine ⟨fun y hy => ?_, ?_⟩
      · rcases List.mem_append.1 hy with hy | hy
        · have := hb y (by simp [hy]); omega
        · simp at hy; subst hy
          have := hb z (by simp)
          exact ⟨this.1, by show z.1 ≤ hi; omega, h2⟩
      · rw [List.pairwise_append]
        refine ⟨ho.1, by simp, fun a ha b hb' => ?_⟩
        simp at hb'; subst hb'
        have := hb a (by simp [ha])
        show a.1 ≤ hi
        omega
    · exact ha
  · exact ha
theorem PcOk.more {m M M' : Int} {out : List (Int × Int × Int)} (h : PcOk m M out) (hM : M ≤ M') : PcOk m M' out := ⟨fun z hz => by have := h.b z hz; omega, h.o⟩
theorem goC_ok (n : Int → Int) (m M : Int) : ∀ (r : List Int) (x : Int) (out : List (Int × Int × Int)), (x :: r).Pairwise (· < ·) → (∀ t ∈ x :: r, m ≤ t ∧ t ≤ M + 1) → PcOk m (x - 1) out → PcOk m M (Sw.goC pushP n (x :: r) out) := by
  intro r
  induction r with
  | nil =>
    intro x out _ hb h
    exact h.more (by have := hb x (by simp); omega)
  | cons y r ih =>
    intro x out hp hb h
    have hxy : x < y := (List.pairwise_cons.1 hp).1 y (by simp)
    have hx := hb x (by simp)
    unfold Sw.goC
    split
    · exact ih y out (List.pairwise_cons.1 hp).2 (fun t ht => hb t (by simp [ht])) (h.more (by omega))
    · exact ih y _ (List.pairwise_cons.1 hp).2 (fun t ht => hb t (by simp [ht])) (h.push hx.1 (by omega) (by omega))

theorem last_snoc {α : Type} (s x : α) (r : List α) (h : s :: (r ++ [x]) ≠ []) : (s :: (r ++ [x])).getLast h = x := by
  have : s :: (r ++ [x]) = (s :: r) ++ [x] := rfl
  simp only [this, List.getLast_concat]
theorem hull_push (out : List (Int × Int)) (lo hi : Int) : hullL (pushS out lo hi) = match hullL out with | none => some (lo, hi) | some z => some (z.1, hi) := by
  have ha : hullL (out ++ [(lo, hi)]) = match hullL out with | none => some (lo, hi) | some z => some (z.1, hi) := by
    cases out with
    | nil => rfl
    | cons s r => simp [hullL, last_snoc]
  unfold pushS
  split
  · next z hz =>
    split
    · obtain ⟨pre, e1, e2⟩ := set_last out z (z.1, hi) hz
      rw [e2, e1]
      cases pre with
      | nil => rfl
      | cons s r => simp [hullL, last_snoc]
    · exact ha
  · exact ha
def HOk (m M : Int) (o : Option (Int × Int)) : Prop := ∀ z, o = some z → m ≤ z.1 ∧ z.1 ≤ z.2 ∧ z.2 ≤ M
theorem leastL_ok (f m M : Int) : ∀ (ps : List (Int × Int × Int)) (out : List (Int × Int)), PcOk m M ps → HOk m M (hullL out) → (∀ z, hullL out = some z → ∀ p ∈ ps, z.1 ≤ p.2.1) → HOk m M (hullL (leastL f ps out)) := by
  intro ps
  induction ps with
  | nil => intro out _ h _; exact h
  | cons p r ih =>
    intro out hp h hh
    have hr : PcOk m M r := ⟨fun z hz => hp.b z (by simp [hz]), (List.pairwise_cons.1 hp.o).2⟩
    have hb := hp.b p (by simp)
    unfold leastL
    split
    · exact ih out hr h (fun z hz q hq => hh z hz q (by simp [hq]))
    · refine ih _ hr ?_ ?_
      · intro z hz
        rw [hull_push] at hz
        split at hz
        · cases hz; exact hb
        · next y hy =>
          cases hz
          have := h y hy
          have := hh y hy p (by simp)
          exact ⟨by show m ≤ y.1; omega, by show y.1 ≤ p.2.1; omega, hb.2.2⟩
      · intro z hz q hq
        have ho := (List.pairwise_cons.1 hp.o).1 q hq
        rw [hull_push] at hz
        split at hz
        · cases hz; exact ho
        · next y hy => cases hz; exact hh y hy q (by simp [hq])
theorem cuts_bounds (l : List (Int × Int)) (m M : Int) (h : ∀ s ∈ l, m ≤ s.1 ∧ s.1 ≤ s.2 ∧ s.2 ≤ M) : (Sw.cuts l).Pairwise (· < ·) ∧ ∀ t ∈ Sw.cuts l, m ≤ t ∧ t ≤ M + 1 := by
  obtain ⟨h1, h2⟩ := Sw.cuts_fold l [] List.Pairwise.nil
  refine ⟨h1, fun t ht => ?_⟩
  have ht' := (h2 t).1 ht
  simp only [List.not_mem_nil, false_or, Sw.evs, List.map_flatMap, List.mem_flatMap, List.map_cons, List.map_nil, List.mem_cons, or_false] at ht'
  obtain ⟨s, hs, rfl | rfl⟩ := ht'
  · have := h s hs; omega
  · have := h s hs; omega
/-- What is agreed on lies between the ends. -/
theorem agree_bounds (l : List (Int × Int)) (f m M : Int) (h : ∀ s ∈ l, m ≤ s.1 ∧ s.1 ≤ s.2 ∧ s.2 ≤ M) (hc : (agreeM l f).2.2 = 0) : m ≤ (agreeM l f).1 ∧ (agreeM l f).1 ≤ (agreeM l f).2.1 ∧ (agreeM l f).2.1 ≤ M := by
  obtain ⟨h1, h2⟩ := cuts_bounds l m M h
  have hp : PcOk m M (Sw.goC pushP (Sw.cnt l) (Sw.cuts l) []) := by
    generalize Sw.cuts l = c at *
    cases c with
    | nil => exact ⟨fun z hz => (by cases hz), List.Pairwise.nil⟩
    | cons x r => exact goC_ok _ m M r x [] h1 h2 ⟨fun z hz => (by cases hz), List.Pairwise.nil⟩
  have hh := leastL_ok ((l.length : Int) - f) m M _ [] hp (fun z hz => by cases hz) (fun z hz => by cases hz)
  unfold agreeM at *
  split at hc
  · simp at hc
  · next hn =>
    rw [if_neg hn]
    generalize hullL (leastL ((l.length : Int) - f) (Sw.goC pushP (Sw.cnt l) (Sw.cuts l) []) []) = o at *
    cases o with
    | none => simp at hc
    | some z => exact hh z rfl
end Go.Proofs.YtnafhblioabkgaaGreat
/- The playing of a schedule, in plain numbers; its bounds. No program in sight. -/
namespace Go.Proofs.YtnafhblioabkgaaGreat

/-- The state of a game: true time, the reading, what is known by each source, what is known, the clock. -/
structure Pl where
  t : Int
  r : Int
  src : List (Option Kn)
  own : Option Kn
  ck : Ck
def takeM (o : Option Kn) (t lo hi p : Int) : Option Kn := match o with
  | none => some ⟨t, lo, hi, p, 0, 0⟩
  | some k => some (k.learn t lo hi)
def Pl.sm (q : Pl) (x : Stp) (err : Int) : Sm := ⟨q.r + x.loc, q.t + x.tru + x.out + x.w2, q.t + x.tru + x.out + x.hold + x.w3, q.r + x.loc + x.outL + x.holdL + x.backL, err⟩
def Pl.moved (q : Pl) (x : Stp) : Pl := { q with t := q.t + x.tru + x.out + x.hold + x.back, r := q.r + x.loc + x.outL + x.holdL + x.backL }
def Pl.hear (q : Pl) (i : Nat) (lo hi p : Int) : Pl := { q with src := q.src.set i (takeM (q.src.getD i none) q.r lo hi p) }
/-- A sample is heard. -/
def Pl.heard (q : Pl) (s : Sch) (x : Stp) : Pl :=
  if (q.sm x (s.errs.getD x.src.toNat 0)).code s.ppb = 0 then (q.moved x).hear x.src.toNat (q.sm x (s.errs.getD x.src.toNat 0)).lo ((q.sm x (s.errs.getD x.src.toNat 0)).hi s.ppb) s.ppb else q.moved x
def Pl.nows (q : Pl) : List (Int × Int) := nowL q.r (q.src.filterMap id)
/-- What is known is brought up to date. -/
def Pl.merged (q : Pl) (s : Sch) : Pl :=
  if (agreeM q.nows s.liars).2.2 = 0 then { q with own := takeM q.own q.r (agreeM q.nows s.liars).1 (agreeM q.nows s.liars).2.1 s.ppb } else q
/-- The clock is read. -/
def Pl.seen (q : Pl) : Pl := match q.own with
  | none => q
  | some k => { q with ck := q.ck.read q.r (k.nowLo q.r) (k.nowHi q.r) }
def Pl.rp (q : Pl) : Rp := match q.own with
  | none => ⟨q.r, q.t, false, 0, 0, ⟨0, 0, false, false, 0, 0⟩⟩
  | some k => ⟨q.r, q.t, true, k.nowLo q.r, k.nowHi q.r, q.ck⟩
def Pl.step (q : Pl) (s : Sch) (x : Stp) : Pl := ((q.heard s x).merged s).seen
def runL (s : Sch) : List Stp → Pl → List Rp
  | [], _ => []
  | x :: l, q => (q.step s x).rp :: runL s l (q.step s x)
def Sch.init (s : Sch) : Pl := ⟨s.start, s.loc, List.replicate s.errs.length none, none, ⟨s.aim, 1000000, false, false, 0, 0⟩⟩
def Sch.run (s : Sch) : List Rp := if s.code = 0 then runL s s.steps s.init else []
theorem runL_len (s : Sch) (l : List Stp) : ∀ q, (runL s l q).length = l.length := by
  induction l with
  | nil => intro q; rfl
  | cons x l ih => intro q; simp [runL, ih]

/-- What is known lies in bounds. -/
structure KB (p : Int) (k : Kn) (r M : Int) : Prop where
  lo : -3377699720527872 ≤ k.lo
  o : k.lo ≤ k.hi
  hi : k.hi ≤ M
  a0 : -1125899906842624 ≤ k.a
  a1 : k.a ≤ r
  p : k.ppb = p
  l0 : 0 ≤ k.learnt
  l1 : k.learnt ≤ 1152921504606846976
  r0 : 0 ≤ k.refused
  r1 : k.refused ≤ 1152921504606846976
theorem KB.at {p : Int} {k : Kn} {r r' M : Int} (h : KB p k r M) (p0 : 0 ≤ p) (p1 : p ≤ 1000000) (hM : M ≤ 587719751371849728) (hr : r ≤ r') (hr' : r' ≤ 289356276058554368) :
    k.goodAt r' ∧ k.nowHi r' ≤ M + 291608075872239616 ∧ -3377699720527872 ≤ k.nowLo r' ∧ k.nowLo r' ≤ k.nowHi r' := by
  have h1 := elHi_le (d := r' - k.a) (p := k.ppb) (by have := h.a1; omega) (by rw [h.p]; exact p0) (by rw [h.p]; exact p1)
  have h2 := elHi_ge (d := r' - k.a) (p := k.ppb) (by have := h.a1; omega) (by rw [h.p]; exact p0) (by rw [h.p]; exact p1)
  have h3 := elLo_nonneg (d := r' - k.a) (p := k.ppb) (by have := h.a1; omega) (by rw [h.p]; exact p0)
  have h4 := elLo_le (d := r' - k.a) (p := k.ppb) (by have := h.a1; omega) (by rw [h.p]; exact p0)
  obtain ⟨lo, o, hi, a0, a1, hp, l0, l1, r0, r1⟩ := h
  unfold Kn.nowLo Kn.nowHi
  refine ⟨⟨⟨okS_mk (by omega) o (by omega), okT_mk (by omega) (by omega), by omega, by omega, l0, l1, r0, r1⟩, by omega, okT_mk (by omega) (by omega), by omega, by omega⟩, by omega, by omega, by omega⟩
theorem KB.learn {p : Int} {k : Kn} {r r' M lo hi : Int} (h : KB p k r M) (p0 : 0 ≤ p) (p1 : p ≤ 1000000) (hM : M ≤ 587719751371849728) (hr : r ≤ r') (hr' : r' ≤ 289356276058554368) (h0 : -3377699720527872 ≤ lo) (h2 : hi ≤ M) : KB p (k.learn r' lo hi) r' M := by
  obtain ⟨g, _, _, _⟩ := h.at p0 p1 hM hr hr'
  obtain ⟨klo, ko, khi, a0, a1, hp, l0, l1, r0, r1⟩ := h
  unfold Kn.learn
  split
  · exact ⟨by show _ ≤ max _ _; omega, by show max _ _ ≤ min _ _; omega, by show min _ _ ≤ _; omega, by show _ ≤ r'; omega, Int.le_refl _, hp, by show 0 ≤ min _ _; omega, by show min _ _ ≤ _; omega, r0, r1⟩
  · exact ⟨klo, ko, khi, a0, by show k.a ≤ r'; omega, hp, l0, l1, by show 0 ≤ min _ _; omega, by show min _ _ ≤ _; omega⟩
theorem KB.take {p : Int} {o : Option Kn} {r r' M lo hi : Int} (h : ∀ k, o = some k → KB p k r M) (p0 : 0 ≤ p) (p1 : p ≤ 1000000) (hM : M ≤ 587719751371849728) (hr0 : -1125899906842624 ≤ r') (hr : r ≤ r') (hr' : r' ≤ 289356276058554368) (h0 : -3377699720527872 ≤ lo) (h1 : lo ≤ hi) (h2 : hi ≤ M) : ∀ k, takeM o r' lo hi p = some k → KB p k r' M := by
  intro k hk
  unfold takeM at hk
  split at hk
  · cases hk
    exact ⟨h0, h1, h2, hr0, Int.le_refl _, rfl, Int.le_refl _, by show (0 : Int) ≤ _; omega, Int.le_refl _, by show (0 : Int) ≤ _; omega⟩
  · cases hk
    exact (h _ rfl).learn p0 p1 hM hr hr' h0 h2
theorem KB.later {p : Int} {k : Kn} {r r' M : Int} (h : KB p k r M) (hr : r ≤ r') : KB p k r' M := ⟨h.lo, h.o, h.hi, h.a0, by have := h.a1; omega, h.p, h.l0, h.l1, h.r0, h.r1⟩

/-- The game's numbers lie in bounds, when j steps are played. -/
structure Pl.good (s : Sch) (j : Nat) (q : Pl) : Prop where
  t0 : -1125899906842624 ≤ q.t
  t1 : q.t ≤ 1125899906842624 + 4503599627370496 * j
  r0 : -1125899906842624 ≤ q.r
  r1 : q.r ≤ 1125899906842624 + 4503599627370496 * j
  n : q.src.length = s.errs.length
  src : ∀ k, some k ∈ q.src → KB s.ppb k q.r 296111675499610112
  own : ∀ k, q.own = some k → KB s.ppb k q.r 587719751371849728
  ca : q.ck.aim = s.aim
  cr : q.ck.rate = 1000000
  c0 : -1125899906842624 ≤ q.ck.a
  c1 : q.ck.set = true → q.ck.a ≤ q.r
  c2 : q.ck.a ≤ 289356276058554368
  s0 : -3377699720527872 ≤ q.ck.shown
  s1 : q.ck.shown ≤ 879327827244089344
theorem Sch.init_good (s : Sch) (h : s.ok) : s.init.good s 0 := by
  have := h.a
  have := h.b
  refine ⟨by show _ ≤ s.start; omega, by show s.start ≤ _; omega, by show _ ≤ s.loc; omega, by show s.loc ≤ _; omega, by simp [Sch.init], fun k hk => ?_, fun k hk => (by cases hk), rfl, rfl, by show _ ≤ (0 : Int); omega, fun h => (by cases h), by show (0 : Int) ≤ _; omega, by show _ ≤ (0 : Int); omega, by show (0 : Int) ≤ _; omega⟩
  simp [Sch.init, List.mem_replicate] at hk
theorem Stp.ok.bounds {n : Nat} {p : Int} {x : Stp} (h : x.ok n p) : (0 ≤ x.tru ∧ x.tru ≤ 1125899906842624) ∧ (0 ≤ x.loc ∧ x.loc ≤ 1125899906842624) ∧ (0 ≤ x.out ∧ x.out ≤ 1125899906842624) ∧ (0 ≤ x.outL ∧ x.outL ≤ 1125899906842624) ∧ (0 ≤ x.hold ∧ x.hold ≤ 1125899906842624) ∧ (0 ≤ x.holdL ∧ x.holdL ≤ 1125899906842624) ∧ (0 ≤ x.back ∧ x.back ≤ 1125899906842624) ∧ (0 ≤ x.backL ∧ x.backL ≤ 1125899906842624) :=
  ⟨h.l _ (by simp [Stp.lens]), h.l _ (by simp [Stp.lens]), h.l _ (by simp [Stp.lens]), h.l _ (by simp [Stp.lens]), h.l _ (by simp [Stp.lens]), h.l _ (by simp [Stp.lens]), h.l _ (by simp [Stp.lens]), h.l _ (by simp [Stp.lens])⟩
theorem Pl.good.moved {s : Sch} {j : Nat} {q : Pl} (h : q.good s j) {x : Stp} (hx : x.ok s.errs.length s.ppb) : (q.moved x).good s (j + 1) := by
  obtain ⟨b1, b2, b3, b4, b5, b6, b7, b8⟩ := hx.bounds
  obtain ⟨t0, t1, r0, r1, n, src, own, ca, cr, c0, c1, c2, s0, s1⟩ := h
  unfold Pl.moved
  refine ⟨?_, ?_, ?_, ?_, n, fun k hk => (src k hk).later ?_, fun k hk => (own k hk).later ?_, ca, cr, c0, fun h => ?_, c2, s0, s1⟩
  all_goals try dsimp only
  all_goals try omega
  have := c1 h
  omega
theorem Pl.good.sm {s : Sch} {j : Nat} {q : Pl} (h : q.good s j) (hj : j < 64) {x : Stp} (hx : x.ok s.errs.length s.ppb) {e : Int} (e0 : 0 ≤ e) (e1 : e ≤ 1125899906842624) : (q.sm x e).good := by
  obtain ⟨b1, b2, b3, b4, b5, b6, b7, b8⟩ := hx.bounds
  have := hx.w2
  have := hx.w3
  obtain ⟨t0, t1, r0, r1, n, src, own, ca, cr, c0, c1, c2, s0, s1⟩ := h
  unfold Pl.sm
  constructor <;> dsimp only <;> omega
theorem getD_mem {l : List (Option Kn)} {i : Nat} {k : Kn} (h : l.getD i none = some k) : some k ∈ l := by
  rw [List.getD_eq_getElem?_getD] at h
  cases hh : l[i]? with
  | none => rw [hh] at h; cases h
  | some y => rw [hh] at h; simp at h; subst h; exact List.mem_of_getElem? hh
theorem Pl.good.hear {s : Sch} {j : Nat} {q : Pl} (h : q.good s j) (hs : s.ok) (hj : j ≤ 64) {i : Nat} {lo hi : Int} (h0 : -3377699720527872 ≤ lo) (h1 : lo ≤ hi) (h2 : hi ≤ 296111675499610112) : (q.hear i lo hi s.ppb).good s j := by
  obtain ⟨t0, t1, r0, r1, n, src, own, ca, cr, c0, c1, c2, s0, s1⟩ := h
  refine ⟨t0, t1, r0, r1, ?_, fun k hk => ?_, own, ca, cr, c0, c1, c2, s0, s1⟩
  · simp [Pl.hear, n]
  · rcases List.mem_or_eq_of_mem_set hk with hk | hk
    · exact src k hk
    · exact KB.take (fun k hk => src k (getD_mem hk)) hs.p0 hs.p1 (by omega) r0 (Int.le_refl _) (by omega) h0 h1 h2 k hk.symm
theorem Pl.good.heard {s : Sch} {j : Nat} {q : Pl} (h : q.good s j) (hs : s.ok) (hj : j < 64) {x : Stp} (hx : x.ok s.errs.length s.ppb) (e0 : 0 ≤ s.errs.getD x.src.toNat 0) (e1 : s.errs.getD x.src.toNat 0 ≤ 1125899906842624) : (q.heard s x).good s (j + 1) := by
  have hm := h.sm hj hx e0 e1
  have hb := h.moved hx
  unfold Pl.heard
  split
  · next hc =>
    refine hb.hear hs (by omega) ?_ ?_ ?_
    all_goals
      have b := elHi_le (d := (q.sm x (s.errs.getD x.src.toNat 0)).t4 - (q.sm x (s.errs.getD x.src.toNat 0)).t1) (p := s.ppb) (by have := hm.o; omega) hs.p0 hs.p1
      have b2 := elHi_ge (d := (q.sm x (s.errs.getD x.src.toNat 0)).t4 - (q.sm x (s.errs.getD x.src.toNat 0)).t1) (p := s.ppb) (by have := hm.o; omega) hs.p0 hs.p1
      unfold Sm.code at hc
      split at hc
      · omega
      · split at hc
        · omega
        · obtain ⟨b1, b2, b3, b4, b5, b6, b7, b8⟩ := hx.bounds
          have := hx.w2
          have := hx.w3
          have := h.t0
          have := h.t1
          unfold Sm.hi Sm.lo Pl.sm at *
          dsimp only at *
          omega
  · exact hb
theorem nows_ok {s : Sch} {j : Nat} {q : Pl} (h : q.good s j) (hs : s.ok) (hj : j ≤ 64) : ∀ z ∈ q.nows, -3377699720527872 ≤ z.1 ∧ z.1 ≤ z.2 ∧ z.2 ≤ 587719751371849728 := by
  intro z hz
  simp only [Pl.nows, nowL, List.mem_map, List.mem_filterMap, id_eq, exists_eq_right] at hz
  obtain ⟨k, hk, rfl⟩ := hz
  have := (h.src k hk).at hs.p0 hs.p1 (by omega) (Int.le_refl _) (by have := h.r1; omega)
  exact ⟨this.2.2.1, this.2.2.2, by have := this.2.1; show k.nowHi q.r ≤ _; omega⟩
theorem Pl.good.merged {s : Sch} {j : Nat} {q : Pl} (h : q.good s j) (hs : s.ok) (hj : j ≤ 64) : (q.merged s).good s j := by
  have hn := nows_ok h hs hj
  unfold Pl.merged
  split
  · next hc =>
    obtain ⟨b1, b2, b3⟩ := agree_bounds _ _ _ _ hn hc
    obtain ⟨t0, t1, r0, r1, n, src, own, ca, cr, c0, c1, c2, s0, s1⟩ := h
    exact ⟨t0, t1, r0, r1, n, src, fun k hk => KB.take own hs.p0 hs.p1 (Int.le_refl _) r0 (Int.le_refl _) (by omega) b1 b2 b3 k hk, ca, cr, c0, c1, c2, s0, s1⟩
  · exact h
theorem Pl.good.ck {s : Sch} {j : Nat} {q : Pl} (h : q.good s j) (hs : s.ok) (hj : j ≤ 64) : q.ck.goodAt q.r := by
  obtain ⟨t0, t1, r0, r1, n, src, own, ca, cr, c0, c1, c2, s0, s1⟩ := h
  exact ⟨by rw [ca]; exact hs.i0, by rw [ca]; exact hs.i1, by omega, by omega, okT_mk (by omega) (by omega), okT_mk (by omega) (by omega), okT_mk (by omega) (by omega), c1⟩
theorem Pl.good.seen {s : Sch} {j : Nat} {q : Pl} (h : q.good s j) (hs : s.ok) (hj : j ≤ 64) : q.seen.good s j := by
  unfold Pl.seen
  split
  · exact h
  · next k hk =>
    have b := (h.own k hk).at hs.p0 hs.p1 (Int.le_refl _) (Int.le_refl _) (by have := h.r1; omega)
    have tb := target_le (lo := k.nowLo q.r) (hi := k.nowHi q.r) (aim := q.ck.aim) b.2.2.2 (by rw [h.ca]; exact hs.i0) (by rw [h.ca]; exact hs.i1)
    obtain ⟨t0, t1, r0, r1, n, src, own, ca, cr, c0, c1, c2, s0, s1⟩ := h
    refine ⟨t0, t1, r0, r1, n, src, own, ?_, ?_, ?_, ?_, ?_, ?_, ?_⟩
    all_goals
      unfold Ck.read
      dsimp only
      split
      · split
        all_goals
          first
          | exact ca
          | exact cr
          | exact r0
          | (exact fun _ => Int.le_refl _)
          | (show q.r ≤ _; omega)
          | exact s0
          | exact s1
          | (show _ ≤ max _ _; omega)
          | (show max _ _ ≤ _; omega)
      · first
          | exact ca
          | exact cr
          | exact r0
          | (exact fun _ => Int.le_refl _)
          | (show q.r ≤ _; omega)
          | (show _ ≤ target _ _ _; omega)
          | (show target _ _ _ ≤ _; omega)
end Go.Proofs.YtnafhblioabkgaaGreat
