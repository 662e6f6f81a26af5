/- The plain numbers and lists that the walks speak of: no program in sight. -/
namespace Go.Proofs.YtnafhblioabkgaaGreat

/-- What is known (of layer 37). -/
structure Kn where
  a : Int
  lo : Int
  hi : Int
  ppb : Int
  learnt : Int
  refused : Int
/-- A clock (of layer 38). -/
structure Ck where
  aim : Int
  rate : Int
  set : Bool
  held : Bool
  a : Int
  shown : Int
/-- A report (of layer 41). -/
structure Rp where
  loc : Int
  tru : Int
  some : Bool
  lo : Int
  hi : Int
  ck : Ck
/-- A step of a schedule. -/
structure Stp where
  src : Int
  tru : Int
  loc : Int
  out : Int
  outL : Int
  hold : Int
  holdL : Int
  back : Int
  backL : Int
  w2 : Int
  w3 : Int
/-- A schedule. -/
structure Sch where
  start : Int
  loc : Int
  ppb : Int
  liars : Int
  aim : Int
  errs : List Int
  steps : List Stp

def okT (t : Int) : Bool := decide (-1152921504606846976 ≤ t) && decide (t ≤ 1152921504606846976)
def okS (lo hi : Int) : Bool := okT lo && (okT hi && decide (lo ≤ hi))
theorem okT_iff {t : Int} : okT t = true ↔ -1152921504606846976 ≤ t ∧ t ≤ 1152921504606846976 := by simp [okT]
theorem okS_iff {lo hi : Int} : okS lo hi = true ↔ -1152921504606846976 ≤ lo ∧ lo ≤ hi ∧ hi ≤ 1152921504606846976 := by
  simp [okS, okT_iff]; omega
theorem okT_mk {t : Int} (h0 : -1152921504606846976 ≤ t) (h1 : t ≤ 1152921504606846976) : okT t = true := okT_iff.2 ⟨h0, h1⟩
theorem okS_mk {lo hi : Int} (h0 : -1152921504606846976 ≤ lo) (h1 : lo ≤ hi) (h2 : hi ≤ 1152921504606846976) : okS lo hi = true := okS_iff.2 ⟨h0, h1, h2⟩

/-- x / c, rounded up. -/
def cdiv (x c : Int) : Int := (x + c - 1) / c
theorem cdiv_eq (x c : Int) (hc : 0 < c) : cdiv x c = if 0 < x % c then x / c + 1 else x / c := by
  unfold cdiv
  have h0 := Int.emod_nonneg x (show c ≠ 0 by omega)
  have h1 := Int.emod_lt_of_pos x hc
  have h2 := Int.mul_ediv_add_emod x c
  split
  · next h =>
    have : x + c - 1 = (x % c - 1) + c * (x / c + 1) := by rw [Int.mul_add]; omega
    rw [this, Int.add_mul_ediv_left _ _ (by omega), Int.ediv_eq_zero_of_lt (by omega) (by omega)]; omega
  · next h =>
    have : x + c - 1 = (c - 1) + c * (x / c) := by omega
    rw [this, Int.add_mul_ediv_left _ _ (by omega), Int.ediv_eq_zero_of_lt (by omega) (by omega)]; omega
/-- How far true time has advanced at least, and at most. -/
def elLo (d p : Int) : Int := d * 1000000000 / (1000000000 + p)
def elHi (d p : Int) : Int := cdiv (d * 1000000000) (1000000000 - p)
theorem elLo_nonneg {d p : Int} (d0 : 0 ≤ d) (p0 : 0 ≤ p) : 0 ≤ elLo d p := Int.ediv_nonneg (by omega) (by omega)
theorem elLo_le {d p : Int} (d0 : 0 ≤ d) (p0 : 0 ≤ p) : elLo d p ≤ d := by
  unfold elLo
  refine Int.ediv_le_of_le_mul (by omega) ?_
  exact Int.mul_le_mul_of_nonneg_left (by omega) d0
theorem elHi_ge {d p : Int} (d0 : 0 ≤ d) (p0 : 0 ≤ p) (p1 : p ≤ 1000000) : d ≤ elHi d p := by
  unfold elHi cdiv
  rw [Int.le_ediv_iff_mul_le (by omega)]
  have := Int.mul_le_mul_of_nonneg_left (show 1000000000 - p ≤ 1000000000 by omega) d0
  omega
theorem elHi_le {d p : Int} (d0 : 0 ≤ d) (_p0 : 0 ≤ p) (p1 : p ≤ 1000000) : elHi d p ≤ d + d / 512 + 1 := by
  unfold elHi cdiv
  have h : (d * 1000000000 + (1000000000 - p) - 1) < (d + d / 512 + 2) * (1000000000 - p) := by
    have h1 := Int.mul_le_mul_of_nonneg_left (show 999000000 ≤ 1000000000 - p by omega) (show 0 ≤ d + d / 512 + 1 by omega)
    have h2 : (d + d / 512 + 2) * (1000000000 - p) = (d + d / 512 + 1) * (1000000000 - p) + (1000000000 - p) := by
      rw [show d + d / 512 + 2 = (d + d / 512 + 1) + 1 from by omega, Int.add_mul, Int.one_mul]
    rw [h2]; omega
  have := Int.ediv_lt_of_lt_mul (by omega) h
  omega

/-- What is known is in its ranges. -/
structure Kn.good (k : Kn) : Prop where
  s : okS k.lo k.hi = true
  a : okT k.a = true
  p0 : 0 ≤ k.ppb
  p1 : k.ppb ≤ 1000000
  l0 : 0 ≤ k.learnt
  l1 : k.learnt ≤ 1152921504606846976
  r0 : 0 ≤ k.refused
  r1 : k.refused ≤ 1152921504606846976
/-- It can be carried on to a reading. -/
structure Kn.goodAt (k : Kn) (t : Int) : Prop where
  g : k.good
  o : k.a ≤ t
  v : okT t = true
  d : t - k.a ≤ 576460752303423488
  h : k.hi + elHi (t - k.a) k.ppb ≤ 1152921504606846976
def Kn.nowLo (k : Kn) (t : Int) : Int := k.lo + elLo (t - k.a) k.ppb
def Kn.nowHi (k : Kn) (t : Int) : Int := k.hi + elHi (t - k.a) k.ppb
theorem Kn.goodAt.span {k : Kn} {t : Int} (h : k.goodAt t) : okS (k.nowLo t) (k.nowHi t) = true := by
  have hs := okS_iff.1 h.g.s
  have d0 : 0 ≤ t - k.a := by have := h.o; omega
  have h1 := elLo_nonneg d0 h.g.p0
  have h2 := elLo_le d0 h.g.p0
  have h3 := elHi_ge d0 h.g.p0 h.g.p1
  have h4 := h.h
  exact okS_mk (by unfold Kn.nowLo; omega) (by unfold Kn.nowLo Kn.nowHi; omega) (by unfold Kn.nowHi; omega)
/-- What is known once a span has been learnt. -/
def Kn.learn (k : Kn) (t lo hi : Int) : Kn :=
  if max (k.nowLo t) lo ≤ min (k.nowHi t) hi then ⟨t, max (k.nowLo t) lo, min (k.nowHi t) hi, k.ppb, min (k.learnt + 1) 1152921504606846976, k.refused⟩
  else ⟨k.a, k.lo, k.hi, k.ppb, k.learnt, min (k.refused + 1) 1152921504606846976⟩
/-- A sample (of layer 23), its numbers not too great. -/
structure Sm where
  t1 : Int
  t2 : Int
  t3 : Int
  t4 : Int
  err : Int
structure Sm.good (s : Sm) : Prop where
  a0 : -337769972052787200 ≤ s.t1
  a1 : s.t1 ≤ 337769972052787200
  b0 : -337769972052787200 ≤ s.t2
  b1 : s.t2 ≤ 337769972052787200
  c0 : -337769972052787200 ≤ s.t3
  c1 : s.t3 ≤ 337769972052787200
  d0 : -337769972052787200 ≤ s.t4
  d1 : s.t4 ≤ 337769972052787200
  o : s.t1 ≤ s.t4
  d : s.t4 - s.t1 ≤ 4503599627370496
  e0 : 0 ≤ s.err
  e1 : s.err ≤ 1125899906842624
/-- The span of true time at the reading T4, and the error's code. -/
def Sm.lo (s : Sm) : Int := s.t3 - s.err
def Sm.hi (s : Sm) (p : Int) : Int := s.t2 + s.err + elHi (s.t4 - s.t1) p
def Sm.code (s : Sm) (p : Int) : Int := if s.t3 < s.t2 then 12 else if s.hi p < s.lo then 20 else 0
theorem Sm.hi_le {s : Sm} (h : s.good) {p : Int} (p0 : 0 ≤ p) (p1 : p ≤ 1000000) : s.hi p ≤ 344525371493842944 ∧ -344525371493842944 ≤ s.hi p ∧ -344525371493842944 ≤ s.lo ∧ s.lo ≤ 344525371493842944 := by
  obtain ⟨a0, a1, b0, b1, c0, c1, d0, d1, o, d, e0, e1⟩ := h
  have := elHi_le (show 0 ≤ s.t4 - s.t1 by omega) p0 p1
  have := elHi_ge (show 0 ≤ s.t4 - s.t1 by omega) p0 p1
  unfold Sm.hi Sm.lo
  omega
/-- A clock in its ranges, that can be read at a reading. -/
structure Ck.goodAt (c : Ck) (t : Int) : Prop where
  a0 : 0 ≤ c.aim
  a1 : c.aim ≤ 1000
  r0 : 0 ≤ c.rate
  r1 : c.rate ≤ 1000000000
  a : okT c.a = true
  s : okT c.shown = true
  v : okT t = true
  o : c.set = true → c.a ≤ t
/-- The instant that a clock aims at. -/
def target (lo hi aim : Int) : Int := lo + (hi - lo) * aim / 1000
/-- The clock at a reading. -/
def Ck.read (c : Ck) (t lo hi : Int) : Ck :=
  if c.set then
    if hi < c.shown then ⟨c.aim, c.rate, true, true, t, c.shown⟩
    else ⟨c.aim, c.rate, true, false, t, max (max c.shown lo) (min (target lo hi c.aim) (min 1152921504606846976 (c.shown + (t - c.a) + (t - c.a) * c.rate / 1000000000)))⟩
  else ⟨c.aim, c.rate, true, false, t, target lo hi c.aim⟩
theorem target_le {lo hi aim : Int} (h : lo ≤ hi) (a0 : 0 ≤ aim) (a1 : aim ≤ 1000) : lo ≤ target lo hi aim ∧ target lo hi aim ≤ hi := by
  unfold target
  have h0 : 0 ≤ (hi - lo) * aim / 1000 := Int.ediv_nonneg (Int.mul_nonneg (by omega) a0) (by omega)
  have h1 : (hi - lo) * aim / 1000 ≤ hi - lo := Int.ediv_le_of_le_mul (by omega) (Int.mul_le_mul_of_nonneg_left a1 (by omega))
  omega
theorem rate_le {d r : Int} (d0 : 0 ≤ d) (r0 : 0 ≤ r) (r1 : r ≤ 1000000000) : 0 ≤ d * r / 1000000000 ∧ d * r / 1000000000 ≤ d :=
  ⟨Int.ediv_nonneg (Int.mul_nonneg d0 r0) (by omega), Int.ediv_le_of_le_mul (by omega) (Int.mul_le_mul_of_nonneg_left r1 d0)⟩
end Go.Proofs.YtnafhblioabkgaaGreat
