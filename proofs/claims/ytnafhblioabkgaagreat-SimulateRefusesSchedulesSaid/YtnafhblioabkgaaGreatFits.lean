/- drift.Fits: products compared. -/
import Derived.Test.YtnafhblioabkgaaGreatSteer
import Derived.Test.YtnafhblioabkgaaGreatFind
namespace Go.Proofs.YtnafhblioabkgaaGreat
open Go.RowKit

theorem Compare_u64 (x y : Int) (w : World) : Calls Tryz.prog 107 #[.int .u64 x, .int .u64 y] w fun e w' => e = .returned (.int .i64 (Lib.compareInt x y)) ∧ w = w' := by
  have N := Lib.hid fun (z : Int) (W : World) => (show Calls Tryz.prog 116 #[.int .u64 z] W fun e w' => e = .returned (.bool false) ∧ W = w' by
    go_enter Tryz.func116, Tryz.ntmps116
    go_wp2
    go_ret
    exact ⟨ret_bool (by simp), rfl⟩)
  unfold Lib.compareInt
  by_cases h1 : x < y
  · rw [if_pos h1]
    have t1 : decide (x < y) = true := by simp [h1]
    go_enter Tryz.func107, Tryz.ntmps107
    go_wp2_with (go_at_call 116; refine (N.out _ _).mono ?_; rintro e w' ⟨rfl, rfl⟩)
    go_ret
    exact ⟨rfl, rfl⟩
  · rw [if_neg h1]
    have t1 : decide (x < y) = false := by simp; omega
    by_cases h2 : y < x
    · rw [if_pos h2]
      have t2 : decide (x > y) = true := by simp; omega
      go_enter Tryz.func107, Tryz.ntmps107
      go_wp2_with (go_at_call 116; refine (N.out _ _).mono ?_; rintro e w' ⟨rfl, rfl⟩)
      go_ret
      exact ⟨rfl, rfl⟩
    · rw [if_neg h2]
      have t2 : decide (x > y) = false := by simp; omega
      go_enter Tryz.func107, Tryz.ntmps107
      go_wp2_with (go_at_call 116; refine (N.out _ _).mono ?_; rintro e w' ⟨rfl, rfl⟩)
      go_ret
      exact ⟨rfl, rfl⟩

theorem Or2 (x y : Int) (b c : Nat) (w : World) (h0 : w.cell? ⟨b, 0, none⟩ = some (.int .i64 x)) (h1 : w.cell? ⟨b, 1, none⟩ = some (.int .i64 y)) :
    Calls Tryz.prog 106 #[.slice (some ⟨b, 0, none⟩) 2 c] w fun e w' => e = .returned (.int .i64 (if x = 0 then y else x)) ∧ w = w' := by
  by_cases hx : x = 0
  · subst hx
    rw [if_pos rfl]
    by_cases hy : y = 0
    · subst hy
      go_enter Tryz.func106, Tryz.ntmps106
      go_wp2
      refine wp_loop_rounds 3 ?_
      rw [rounds_succ]
      go_wp2
      rw [rounds_succ]
      go_wp2
      rw [rounds_succ]
      go_wp2
      go_ret
      exact ⟨rfl, rfl⟩
    · go_enter Tryz.func106, Tryz.ntmps106
      go_wp2
      refine wp_loop_rounds 2 ?_
      rw [rounds_succ]
      go_wp2
      rw [rounds_succ]
      go_wp2
      go_ret
      exact ⟨rfl, rfl⟩
  · rw [if_neg hx]
    go_enter Tryz.func106, Tryz.ntmps106
    go_wp2
    refine wp_loop_rounds 2 ?_
    rw [rounds_succ]
    go_wp2
    go_ret
    exact ⟨rfl, rfl⟩

theorem compare_parts (x y : Int) : (if Lib.compareInt (x / 18446744073709551616) (y / 18446744073709551616) = 0 then Lib.compareInt (x % 18446744073709551616) (y % 18446744073709551616) else Lib.compareInt (x / 18446744073709551616) (y / 18446744073709551616)) = Lib.compareInt x y := by
  unfold Lib.compareInt
  have := Int.mul_ediv_add_emod x 18446744073709551616
  have := Int.mul_ediv_add_emod y 18446744073709551616
  have := Int.emod_lt_of_pos x (show (0 : Int) < 18446744073709551616 by omega)
  have := Int.emod_lt_of_pos y (show (0 : Int) < 18446744073709551616 by omega)
  have := Int.emod_nonneg x (show (18446744073709551616 : Int) ≠ 0 by omega)
  have := Int.emod_nonneg y (show (18446744073709551616 : Int) ≠ 0 by omega)
  split <;> split <;> (try split) <;> (try split) <;> (try split) <;> (try split) <;> omega

theorem exact_Compare (a b c d : Int) (w : World) (a0 : 0 ≤ a) (a1 : a ≤ 9223372036854775807) (b0 : 0 ≤ b) (b1 : b ≤ 9223372036854775807) (c0 : 0 ≤ c) (c1 : c ≤ 9223372036854775807) (d0 : 0 ≤ d) (d1 : d ≤ 9223372036854775807) :
    Calls Tryz.prog 89 #[.int .i64 a, .int .i64 b, .int .i64 c, .int .i64 d] w fun e w' => e = .returned (.int .i64 (Lib.compareInt (a * b) (c * d))) ∧ Below w.heap.size w w' := by
  have M1 := Lib.hid fun W => Mul64 a b W a0 (by omega) b0 (by omega)
  have M2 := Lib.hid fun W => Mul64 c d W c0 (by omega) d0 (by omega)
  rw [← compare_parts]
  generalize a * b / 18446744073709551616 = ph at *
  generalize a * b % 18446744073709551616 = pl at *
  generalize c * d / 18446744073709551616 = qh at *
  generalize c * d % 18446744073709551616 = ql at *
  have C1 := Lib.hid fun W => Compare_u64 ph qh W
  have C2 := Lib.hid fun W => Compare_u64 pl ql W
  generalize Lib.compareInt ph qh = x at *
  generalize Lib.compareInt pl ql = y at *
  have O := Lib.hid fun W b c => Or2 x y b c W
  generalize (if x = 0 then y else x) = r at *
  go_enter Tryz.func89, Tryz.ntmps89
  go_wp2_with fail
  refine (M1.out _).mono ?_
  rintro e w1 ⟨rfl, rfl⟩
  go_wp2_with fail
  refine (M2.out _).mono ?_
  rintro e w1 ⟨rfl, rfl⟩
  go_wp2_with fail
  refine (C1.out _).mono ?_
  rintro e w1 ⟨rfl, rfl⟩
  go_wp2_with fail
  refine (C2.out _).mono ?_
  rintro e w1 ⟨rfl, rfl⟩
  go_wp2_with fail
  refine (O.out _ _ _ (blk2 (Blk.new _ _ _)).1 (blk2 (Blk.new _ _ _)).2.1).mono ?_
  rintro e w1 ⟨rfl, rfl⟩
  go_wp2
  go_ret
  exact ⟨rfl, below_alloc (Below.refl _ _) _⟩

/-- Whether clocks of at most p parts in 10^9 of drift may read d while e passes. -/
def fitsM (e d p : Int) : Bool := decide (e * (1000000000 - p) ≤ d * 1000000000) && decide (d * 1000000000 ≤ e * (1000000000 + p))
theorem compare_le (x y : Int) : decide (Lib.compareInt x y ≤ 0) = decide (x ≤ y) := by
  unfold Lib.compareInt
  split
  · simp; omega
  · split <;> simp <;> omega
theorem bound_yes (p : Int) (W : World) (p0 : 0 ≤ p) (p1 : p ≤ 1000000) : Calls Tryz.prog 88 #[.int .i64 p] W fun e w' => e = .returned (.bool true) ∧ W = w' := by
  go_enter Tryz.func88, Tryz.ntmps88
  go_wp2
  go_ret
  exact ⟨ret_bool (by first | (simp; done) | (simp; omega)), rfl⟩
theorem Fits_ok (e d p : Int) (w : World) (e0 : 0 ≤ e) (e1 : e ≤ 1125899906842624) (d0 : 0 ≤ d) (d1 : d ≤ 1125899906842624) (p0 : 0 ≤ p) (p1 : p ≤ 1000000) :
    Calls Tryz.prog 67 #[.int .i64 e, .int .i64 d, .int .i64 p] w fun r w' => r = .returned (.bool (fitsM e d p)) ∧ Below w.heap.size w w' := by
  have C1 := Lib.hid fun W => exact_Compare e (1000000000 - p) d 1000000000 W e0 (by omega) (by omega) (by omega) d0 (by omega) (by omega) (by omega)
  have C2 := Lib.hid fun W => exact_Compare d 1000000000 e (1000000000 + p) W d0 (by omega) (by omega) (by omega) e0 (by omega) (by omega) (by omega)
  have m1 : decide ((if d < e then d else e) < 0) = false := by simp; split <;> omega
  have m2 : decide (1152921504606846976 < (if e < d then d else e)) = false := by simp; split <;> omega
  have m3 := compare_le (e * (1000000000 - p)) (d * 1000000000)
  have m4 := compare_le (d * 1000000000) (e * (1000000000 + p))
  unfold fitsM
  rw [← m3, ← m4]
  clear m3 m4
  generalize Lib.compareInt (e * (1000000000 - p)) (d * 1000000000) = x at *
  generalize Lib.compareInt (d * 1000000000) (e * (1000000000 + p)) = y at *
  cases hx : decide (x ≤ 0)
  all_goals
    go_enter Tryz.func67, Tryz.ntmps67
    go_wp2_with fail
    refine (bound_yes _ _ p0 p1).mono ?_
    rintro e w1 ⟨rfl, rfl⟩
    go_wp2_with fail
    refine (C1.out _).mono ?_
    rintro e w1 ⟨rfl, hb1⟩
    go_wp2_with (go_at_call 89; refine (C2.out _).mono ?_; rintro e w2 ⟨rfl, hb2⟩)
    go_ret
    exact ⟨ret_bool (by simp), by first | exact hb1 | exact below_then hb1 hb2⟩
end Go.Proofs.YtnafhblioabkgaaGreat
/- simulate.Check: the first error of a schedule. -/
namespace Go.Proofs.YtnafhblioabkgaaGreat
open Go.RowKit

def nearB (v : Int) : Bool := decide (-1125899906842624 ≤ v) && decide (v ≤ 1125899906842624)
def lenB (v : Int) : Bool := decide (0 ≤ v) && decide (v ≤ 1125899906842624)
def Stp.lens (x : Stp) : List Int := [x.tru, x.loc, x.out, x.outL, x.hold, x.holdL, x.back, x.backL]
/-- The first error of a step, of a schedule with n sources. -/
def stepM (n : Nat) (p : Int) (x : Stp) : Int :=
  if decide (x.src < 0) || (decide (x.src ≥ n) || (!(x.lens.all lenB) || (!nearB x.w2 || !nearB x.w3))) then 4
  else if !fitsM x.tru x.loc p || (!fitsM x.out x.outL p || (!fitsM x.hold x.holdL p || !fitsM x.back x.backL p)) then 28
  else 0
def stepsM (n : Nat) (p : Int) : List Stp → Int
  | [] => 0
  | x :: r => if stepM n p x = 0 then stepsM n p r else stepM n p x
/-- The first error of a schedule. -/
def Sch.code (s : Sch) : Int :=
  if s.errs.length < 1 ∨ 8 < s.errs.length ∨ 64 < s.steps.length then 8
  else if !(nearB s.start) || (!(nearB s.loc) || (decide (s.ppb < 0) || (decide (s.ppb > 1000000) || (decide (s.aim < 0) || (decide (s.aim > 1000) || (decide (s.liars < 0) || (decide (s.liars > s.errs.length) || (decide (2 * s.liars ≥ s.errs.length) || !(s.errs.all lenB))))))))) then 4
  else stepsM s.errs.length s.ppb s.steps

theorem near_ok (v : Int) (w : World) : Calls Tryz.prog 36 #[.int .i64 v] w fun e w' => e = .returned (.bool (nearB v)) ∧ w = w' := by
  unfold nearB
  cases h : decide (-1125899906842624 ≤ v)
  all_goals
    have h' : decide (v ≥ -1125899906842624) = _ := h
    go_enter Tryz.func36, Tryz.ntmps36
    go_wp2
    go_ret
    exact ⟨rfl, rfl⟩
theorem lengths1 (v : Int) (w : World) : Calls Tryz.prog 66 #[.int .i64 v] w fun e w' => e = .returned (.bool (!lenB v)) ∧ Below w.heap.size w w' := by
  unfold lenB
  have e1 : decide (0 ≤ v) = !decide (v < 0) := by by_cases h : v < 0 <;> simp [h] <;> omega
  have e2 : decide (v ≤ 1125899906842624) = !decide (1125899906842624 < v) := by by_cases h : v ≤ 1125899906842624 <;> simp [h] <;> omega
  rw [e1, e2]
  clear e1 e2
  cases h : decide (v < 0)
  all_goals
    go_enter Tryz.func66, Tryz.ntmps66
    go_wp2
    go_ret
    exact ⟨ret_bool (by simp), Below.refl _ _⟩
theorem any_not (p : Int → Bool) (l : List Int) : l.any (fun v => !p v) = !l.all p := by
  induction l with
  | nil => rfl
  | cons x r ih => simp [ih]
theorem lengths_ok (A : Option Addr) (n c : Nat) (l : List Int) (w : World) (B : Nat) (hB : B ≤ w.heap.size) (hr : RdL encI 1 w B A n l) :
    Calls Tryz.prog 37 #[.slice A n c] w fun e w' => e = .returned (.bool (l.all lenB)) ∧ Below w.heap.size w w' := by
  have e1 : ∀ args w, (callFunc 66 args).run Tryz.prog w = .ok (.enter 66 args) w := enters_of Tryz.func66 (by kernel_rfl) rfl
  have C := ContainsFunc_I 66 #[] (fun v => !lenB v) A n c l w B e1 hB hr (fun W' x _ => lengths1 x W')
  rw [any_not] at C
  have C' := Lib.hid C
  clear C e1 hr hB
  generalize l.all lenB = r at *
  go_enter Tryz.func37, Tryz.ntmps37
  go_wp2_with (go_at_call 65; refine (C'.out).mono ?_; rintro e w' ⟨rfl, hb⟩)
  go_ret
  exact ⟨ret_bool (by simp), hb⟩
--SIM
theorem blk11 {w : World} {g : Nat} {t : TypeId} {a b c d e f g1 h i j k : Value} (h' : Blk w g t #[a, b, c, d, e, f, g1, h, i, j, k]) : w.cell? ⟨g, 0, none⟩ = some a ∧ w.cell? ⟨g, 1, none⟩ = some b ∧ w.cell? ⟨g, 2, none⟩ = some c ∧ w.cell? ⟨g, 3, none⟩ = some d ∧ w.cell? ⟨g, 4, none⟩ = some e ∧ w.cell? ⟨g, 5, none⟩ = some f ∧ w.cell? ⟨g, 6, none⟩ = some g1 ∧ w.cell? ⟨g, 7, none⟩ = some h ∧ w.cell? ⟨g, 8, none⟩ = some i ∧ w.cell? ⟨g, 9, none⟩ = some j ∧ w.cell? ⟨g, 10, none⟩ = some k :=
  ⟨h'.cell 0, h'.cell 1, h'.cell 2, h'.cell 3, h'.cell 4, h'.cell 5, h'.cell 6, h'.cell 7, h'.cell 8, h'.cell 9, h'.cell 10⟩
theorem blk7 {w : World} {g' : Nat} {t : TypeId} {a b c d e f g : Value} (h' : Blk w g' t #[a, b, c, d, e, f, g]) : w.cell? ⟨g', 0, none⟩ = some a ∧ w.cell? ⟨g', 1, none⟩ = some b ∧ w.cell? ⟨g', 2, none⟩ = some c ∧ w.cell? ⟨g', 3, none⟩ = some d ∧ w.cell? ⟨g', 4, none⟩ = some e ∧ w.cell? ⟨g', 5, none⟩ = some f ∧ w.cell? ⟨g', 6, none⟩ = some g :=
  ⟨h'.cell 0, h'.cell 1, h'.cell 2, h'.cell 3, h'.cell 4, h'.cell 5, h'.cell 6⟩
theorem lens_reads (x : Stp) (w : World) (g : Nat) (t : TypeId) (h : Blk w g t #[.int .i64 x.tru, .int .i64 x.loc, .int .i64 x.out, .int .i64 x.outL, .int .i64 x.hold, .int .i64 x.holdL, .int .i64 x.back, .int .i64 x.backL]) : RdL encI 1 w w.heap.size (some ⟨g, 0, none⟩) 8 x.lens :=
  ⟨rfl, by omega, fun _ => ⟨g, 0, rfl, h.lt, fun i y hy j u hu => by
    have hj : j = 0 := by
      have := (List.getElem?_eq_some_iff.1 hu).1
      simpa using this
    subst hj
    simp at hu
    subst hu
    rw [h.cell]
    have hi : i < 8 := (List.getElem?_eq_some_iff.1 hy).1
    match i, hi, hy with
    | 0, _, hy | 1, _, hy | 2, _, hy | 3, _, hy | 4, _, hy | 5, _, hy | 6, _, hy | 7, _, hy => simp [Stp.lens] at hy; subst hy; rfl⟩⟩
abbrev vSch (s : Sch) (A : Option Addr) (c : Nat) (A' : Option Addr) (c' : Nat) : Value := .agg #[.int .i64 s.start, .int .i64 s.loc, .int .i64 s.ppb, .int .i64 s.liars, .int .i64 s.aim, .slice A s.errs.length c, .slice A' s.steps.length c']
set_option maxHeartbeats 4000000 in
set_option maxRecDepth 100000 in
theorem step_ok (s : Sch) (x : Stp) (A A' : Option Addr) (c c' n n' : Nat) (w : World) (p0 : 0 ≤ s.ppb) (p1 : s.ppb ≤ 1000000) :
    Calls Tryz.prog 38 #[.agg #[.int .i64 s.start, .int .i64 s.loc, .int .i64 s.ppb, .int .i64 s.liars, .int .i64 s.aim, .slice A n c, .slice A' n' c'], vStp x] w fun e w' => e = .returned (.int .i64 (stepM n s.ppb x)) ∧ Below w.heap.size w w' := by
  obtain ⟨start, loc, ppb, liars, aim, errs, steps⟩ := s
  dsimp only at *
  have L := Lib.hid fun (W : World) (g c : Nat) (h : Blk W g 3 #[.int .i64 x.tru, .int .i64 x.loc, .int .i64 x.out, .int .i64 x.outL, .int .i64 x.hold, .int .i64 x.holdL, .int .i64 x.back, .int .i64 x.backL]) => lengths_ok (some ⟨g, 0, none⟩) 8 c x.lens W _ (Nat.le_refl _) (lens_reads x W g _ h)
  have N2 := Lib.hid fun W => near_ok x.w2 W
  have N3 := Lib.hid fun W => near_ok x.w3 W
  unfold stepM
  cases h0 : decide (x.src < 0)
  case true =>
    clear L N2 N3
    go_enter Tryz.func38, Tryz.ntmps38
    go_wp2
    go_ret
    exact ⟨rfl, below_alloc (below_alloc (Below.refl _ _) _) _⟩
  cases h1 : decide (x.src ≥ n)
  case true =>
    clear L N2 N3
    go_enter Tryz.func38, Tryz.ntmps38
    go_wp2
    go_ret
    exact ⟨rfl, below_alloc (below_alloc (Below.refl _ _) _) _⟩
  cases hL : x.lens.all lenB
  case false =>
    rw [hL] at L
    clear N2 N3
    go_enter Tryz.func38, Tryz.ntmps38
    go_wp2_with fail
    refine (L.out _ _ _ (Blk.new2 w _ _ _ _)).mono ?_
    rintro e w1 ⟨rfl, hb1⟩
    have G0 := Lib.hid (((Blk.new w _ _).alloc _).alloc _ |>.keep hb1)
    have G1 := Lib.hid ((Blk.new1 w _ _ _).alloc _ |>.keep hb1)
    have hB1 := Lib.hid (below_then (below_alloc (below_alloc (below_alloc (Below.refl _ _) _) _) _) hb1)
    have hz1 : w.heap.size < w1.heap.size := by have := hb1.size; simp at this; omega
    clear hb1
    obtain ⟨x0, x1, x2, x3, x4, x5, x6, x7, x8, x9, x10⟩ := blk11 G1.out
    go_wp2
    go_ret
    exact ⟨rfl, hB1.out⟩
  rw [hL] at L
  cases h2 : nearB x.w2
  case false =>
    rw [h2] at N2
    clear N3
    go_enter Tryz.func38, Tryz.ntmps38
    go_wp2_with fail
    refine (L.out _ _ _ (Blk.new2 w _ _ _ _)).mono ?_
    rintro e w1 ⟨rfl, hb1⟩
    have G0 := Lib.hid (((Blk.new w _ _).alloc _).alloc _ |>.keep hb1)
    have G1 := Lib.hid ((Blk.new1 w _ _ _).alloc _ |>.keep hb1)
    have hB1 := Lib.hid (below_then (below_alloc (below_alloc (below_alloc (Below.refl _ _) _) _) _) hb1)
    have hz1 : w.heap.size < w1.heap.size := by have := hb1.size; simp at this; omega
    clear hb1
    obtain ⟨x0, x1, x2, x3, x4, x5, x6, x7, x8, x9, x10⟩ := blk11 G1.out
    go_wp2_with (go_at_call 36; first | (refine (N2.out _).mono ?_; rintro e w' ⟨rfl, rfl⟩) | (refine (N3.out _).mono ?_; rintro e w' ⟨rfl, rfl⟩))
    go_ret
    exact ⟨rfl, hB1.out⟩
  rw [h2] at N2
  cases h3 : nearB x.w3
  case false =>
    rw [h3] at N3
    go_enter Tryz.func38, Tryz.ntmps38
    go_wp2_with fail
    refine (L.out _ _ _ (Blk.new2 w _ _ _ _)).mono ?_
    rintro e w1 ⟨rfl, hb1⟩
    have G0 := Lib.hid (((Blk.new w _ _).alloc _).alloc _ |>.keep hb1)
    have G1 := Lib.hid ((Blk.new1 w _ _ _).alloc _ |>.keep hb1)
    have hB1 := Lib.hid (below_then (below_alloc (below_alloc (below_alloc (Below.refl _ _) _) _) _) hb1)
    have hz1 : w.heap.size < w1.heap.size := by have := hb1.size; simp at this; omega
    clear hb1
    obtain ⟨x0, x1, x2, x3, x4, x5, x6, x7, x8, x9, x10⟩ := blk11 G1.out
    go_wp2_with fail
    refine (N2.out _).mono ?_
    rintro e w' ⟨rfl, rfl⟩
    go_wp2_with fail
    refine (N3.out _).mono ?_
    rintro e w' ⟨rfl, rfl⟩
    go_wp2
    go_ret
    exact ⟨rfl, hB1.out⟩
  rw [h3] at N3
  have hlen : ∀ v ∈ x.lens, 0 ≤ v ∧ v ≤ 1125899906842624 := fun v hv => by
    have := List.all_eq_true.1 hL v hv
    simp [lenB] at this
    exact this
  have F0 := Lib.hid fun W => Fits_ok x.tru x.loc ppb W (hlen _ (by simp [Stp.lens])).1 (hlen _ (by simp [Stp.lens])).2 (hlen _ (by simp [Stp.lens])).1 (hlen _ (by simp [Stp.lens])).2 p0 p1
  have F1 := Lib.hid fun W => Fits_ok x.out x.outL ppb W (hlen _ (by simp [Stp.lens])).1 (hlen _ (by simp [Stp.lens])).2 (hlen _ (by simp [Stp.lens])).1 (hlen _ (by simp [Stp.lens])).2 p0 p1
  have F2 := Lib.hid fun W => Fits_ok x.hold x.holdL ppb W (hlen _ (by simp [Stp.lens])).1 (hlen _ (by simp [Stp.lens])).2 (hlen _ (by simp [Stp.lens])).1 (hlen _ (by simp [Stp.lens])).2 p0 p1
  have F3 := Lib.hid fun W => Fits_ok x.back x.backL ppb W (hlen _ (by simp [Stp.lens])).1 (hlen _ (by simp [Stp.lens])).2 (hlen _ (by simp [Stp.lens])).1 (hlen _ (by simp [Stp.lens])).2 p0 p1
  clear hlen
  have i0 : ∀ w : World, (Instr.index 112 (.agg #[.int .i64 x.tru, .int .i64 x.loc, .int .i64 x.out, .int .i64 x.outL, .int .i64 x.hold, .int .i64 x.holdL, .int .i64 x.back, .int .i64 x.backL]) (.int .i64 0)).run Tryz.prog w = .ok (.agg #[.int .i64 x.tru, .int .i64 x.loc]) w := fun _ => by kernel_rfl
  have i1 : ∀ w : World, (Instr.index 112 (.agg #[.int .i64 x.tru, .int .i64 x.loc, .int .i64 x.out, .int .i64 x.outL, .int .i64 x.hold, .int .i64 x.holdL, .int .i64 x.back, .int .i64 x.backL]) (.int .i64 1)).run Tryz.prog w = .ok (.agg #[.int .i64 x.out, .int .i64 x.outL]) w := fun _ => by kernel_rfl
  have i2 : ∀ w : World, (Instr.index 112 (.agg #[.int .i64 x.tru, .int .i64 x.loc, .int .i64 x.out, .int .i64 x.outL, .int .i64 x.hold, .int .i64 x.holdL, .int .i64 x.back, .int .i64 x.backL]) (.int .i64 2)).run Tryz.prog w = .ok (.agg #[.int .i64 x.hold, .int .i64 x.holdL]) w := fun _ => by kernel_rfl
  have i3 : ∀ w : World, (Instr.index 112 (.agg #[.int .i64 x.tru, .int .i64 x.loc, .int .i64 x.out, .int .i64 x.outL, .int .i64 x.hold, .int .i64 x.holdL, .int .i64 x.back, .int .i64 x.backL]) (.int .i64 3)).run Tryz.prog w = .ok (.agg #[.int .i64 x.back, .int .i64 x.backL]) w := fun _ => by kernel_rfl
  cases hf0 : fitsM x.tru x.loc ppb
  case false =>
    rw [hf0] at F0
    go_enter Tryz.func38, Tryz.ntmps38
    go_wp2_with fail
    refine (L.out _ _ _ (Blk.new2 w _ _ _ _)).mono ?_
    rintro e w1 ⟨rfl, hb1⟩
    have G0 := Lib.hid (((Blk.new w _ _).alloc _).alloc _ |>.keep hb1)
    have G1 := Lib.hid ((Blk.new1 w _ _ _).alloc _ |>.keep hb1)
    have hB1 := Lib.hid (below_then (below_alloc (below_alloc (below_alloc (Below.refl _ _) _) _) _) hb1)
    have hz1 : w.heap.size < w1.heap.size := by have := hb1.size; simp at this; omega
    clear hb1
    obtain ⟨x0, x1, x2, x3, x4, x5, x6, x7, x8, x9, x10⟩ := blk11 G1.out
    go_wp2_with fail
    refine (N2.out _).mono ?_
    rintro e w' ⟨rfl, rfl⟩
    go_wp2_with fail
    refine (N3.out _).mono ?_
    rintro e w' ⟨rfl, rfl⟩
    go_wp2
    clear G1 L N2 N3
    refine wp_loop_rounds 5 ?_
    rw [rounds_succ]
    obtain ⟨z0, z1, z2, z3, z4, z5, z6⟩ := blk7 G0.out
    go_wp2_with fail
    refine (F0.out _).mono ?_
    rintro e w2 ⟨rfl, hb⟩
    have hB2 := Lib.hid (below_then (below_alloc hB1.out _) hb)
    have G11 := Lib.hid ((G0.out.alloc _).keep hb)
    have hzz0 : w.heap.size < w2.heap.size := by have := hb.size; simp at this; omega
    clear hb hB1 G0 z0 z1 z2 z3 z4 z5 z6
    go_wp2
    go_ret
    exact ⟨rfl, hB2.out⟩
  rw [hf0] at F0
  cases hf1 : fitsM x.out x.outL ppb
  case false =>
    rw [hf1] at F1
    go_enter Tryz.func38, Tryz.ntmps38
    go_wp2_with fail
    refine (L.out _ _ _ (Blk.new2 w _ _ _ _)).mono ?_
    rintro e w1 ⟨rfl, hb1⟩
    have G0 := Lib.hid (((Blk.new w _ _).alloc _).alloc _ |>.keep hb1)
    have G1 := Lib.hid ((Blk.new1 w _ _ _).alloc _ |>.keep hb1)
    have hB1 := Lib.hid (below_then (below_alloc (below_alloc (below_alloc (Below.refl _ _) _) _) _) hb1)
    have hz1 : w.heap.size < w1.heap.size := by have := hb1.size; simp at this; omega
    clear hb1
    obtain ⟨x0, x1, x2, x3, x4, x5, x6, x7, x8, x9, x10⟩ := blk11 G1.out
    go_wp2_with fail
    refine (N2.out _).mono ?_
    rintro e w' ⟨rfl, rfl⟩
    go_wp2_with fail
    refine (N3.out _).mono ?_
    rintro e w' ⟨rfl, rfl⟩
    go_wp2
    clear G1 L N2 N3
    refine wp_loop_rounds 5 ?_
    rw [rounds_succ]
    obtain ⟨z0, z1, z2, z3, z4, z5, z6⟩ := blk7 G0.out
    go_wp2_with fail
    refine (F0.out _).mono ?_
    rintro e w2 ⟨rfl, hb⟩
    have hB2 := Lib.hid (below_then (below_alloc hB1.out _) hb)
    have G11 := Lib.hid ((G0.out.alloc _).keep hb)
    have hzz0 : w.heap.size < w2.heap.size := by have := hb.size; simp at this; omega
    clear hb hB1 G0 z0 z1 z2 z3 z4 z5 z6
    go_wp2
    rw [rounds_succ]
    obtain ⟨z0, z1, z2, z3, z4, z5, z6⟩ := blk7 G11.out
    go_wp2_with fail
    refine (F1.out _).mono ?_
    rintro e w3 ⟨rfl, hb⟩
    have hB3 := Lib.hid (below_then (below_alloc hB2.out _) hb)
    have G12 := Lib.hid ((G11.out.alloc _).keep hb)
    have hzz1 : w.heap.size < w3.heap.size := by have := hb.size; simp at this; omega
    clear hb hB2 G11 z0 z1 z2 z3 z4 z5 z6
    go_wp2
    go_ret
    exact ⟨rfl, hB3.out⟩
  rw [hf1] at F1
  cases hf2 : fitsM x.hold x.holdL ppb
  case false =>
    rw [hf2] at F2
    go_enter Tryz.func38, Tryz.ntmps38
    go_wp2_with fail
    refine (L.out _ _ _ (Blk.new2 w _ _ _ _)).mono ?_
    rintro e w1 ⟨rfl, hb1⟩
    have G0 := Lib.hid (((Blk.new w _ _).alloc _).alloc _ |>.keep hb1)
    have G1 := Lib.hid ((Blk.new1 w _ _ _).alloc _ |>.keep hb1)
    have hB1 := Lib.hid (below_then (below_alloc (below_alloc (below_alloc (Below.refl _ _) _) _) _) hb1)
    have hz1 : w.heap.size < w1.heap.size := by have := hb1.size; simp at this; omega
    clear hb1
    obtain ⟨x0, x1, x2, x3, x4, x5, x6, x7, x8, x9, x10⟩ := blk11 G1.out
    go_wp2_with fail
    refine (N2.out _).mono ?_
    rintro e w' ⟨rfl, rfl⟩
    go_wp2_with fail
    refine (N3.out _).mono ?_
    rintro e w' ⟨rfl, rfl⟩
    go_wp2
    clear G1 L N2 N3
    refine wp_loop_rounds 5 ?_
    rw [rounds_succ]
    obtain ⟨z0, z1, z2, z3, z4, z5, z6⟩ := blk7 G0.out
    go_wp2_with fail
    refine (F0.out _).mono ?_
    rintro e w2 ⟨rfl, hb⟩
    have hB2 := Lib.hid (below_then (below_alloc hB1.out _) hb)
    have G11 := Lib.hid ((G0.out.alloc _).keep hb)
    have hzz0 : w.heap.size < w2.heap.size := by have := hb.size; simp at this; omega
    clear hb hB1 G0 z0 z1 z2 z3 z4 z5 z6
    go_wp2
    rw [rounds_succ]
    obtain ⟨z0, z1, z2, z3, z4, z5, z6⟩ := blk7 G11.out
    go_wp2_with fail
    refine (F1.out _).mono ?_
    rintro e w3 ⟨rfl, hb⟩
    have hB3 := Lib.hid (below_then (below_alloc hB2.out _) hb)
    have G12 := Lib.hid ((G11.out.alloc _).keep hb)
    have hzz1 : w.heap.size < w3.heap.size := by have := hb.size; simp at this; omega
    clear hb hB2 G11 z0 z1 z2 z3 z4 z5 z6
    go_wp2
    rw [rounds_succ]
    obtain ⟨z0, z1, z2, z3, z4, z5, z6⟩ := blk7 G12.out
    go_wp2_with fail
    refine (F2.out _).mono ?_
    rintro e w4 ⟨rfl, hb⟩
    have hB4 := Lib.hid (below_then (below_alloc hB3.out _) hb)
    have G13 := Lib.hid ((G12.out.alloc _).keep hb)
    have hzz2 : w.heap.size < w4.heap.size := by have := hb.size; simp at this; omega
    clear hb hB3 G12 z0 z1 z2 z3 z4 z5 z6
    go_wp2
    go_ret
    exact ⟨rfl, hB4.out⟩
  rw [hf2] at F2
  cases hf3 : fitsM x.back x.backL ppb
  case false =>
    rw [hf3] at F3
    go_enter Tryz.func38, Tryz.ntmps38
    go_wp2_with fail
    refine (L.out _ _ _ (Blk.new2 w _ _ _ _)).mono ?_
    rintro e w1 ⟨rfl, hb1⟩
    have G0 := Lib.hid (((Blk.new w _ _).alloc _).alloc _ |>.keep hb1)
    have G1 := Lib.hid ((Blk.new1 w _ _ _).alloc _ |>.keep hb1)
    have hB1 := Lib.hid (below_then (below_alloc (below_alloc (below_alloc (Below.refl _ _) _) _) _) hb1)
    have hz1 : w.heap.size < w1.heap.size := by have := hb1.size; simp at this; omega
    clear hb1
    obtain ⟨x0, x1, x2, x3, x4, x5, x6, x7, x8, x9, x10⟩ := blk11 G1.out
    go_wp2_with fail
    refine (N2.out _).mono ?_
    rintro e w' ⟨rfl, rfl⟩
    go_wp2_with fail
    refine (N3.out _).mono ?_
    rintro e w' ⟨rfl, rfl⟩
    go_wp2
    clear G1 L N2 N3
    refine wp_loop_rounds 5 ?_
    rw [rounds_succ]
    obtain ⟨z0, z1, z2, z3, z4, z5, z6⟩ := blk7 G0.out
    go_wp2_with fail
    refine (F0.out _).mono ?_
    rintro e w2 ⟨rfl, hb⟩
    have hB2 := Lib.hid (below_then (below_alloc hB1.out _) hb)
    have G11 := Lib.hid ((G0.out.alloc _).keep hb)
    have hzz0 : w.heap.size < w2.heap.size := by have := hb.size; simp at this; omega
    clear hb hB1 G0 z0 z1 z2 z3 z4 z5 z6
    go_wp2
    rw [rounds_succ]
    obtain ⟨z0, z1, z2, z3, z4, z5, z6⟩ := blk7 G11.out
    go_wp2_with fail
    refine (F1.out _).mono ?_
    rintro e w3 ⟨rfl, hb⟩
    have hB3 := Lib.hid (below_then (below_alloc hB2.out _) hb)
    have G12 := Lib.hid ((G11.out.alloc _).keep hb)
    have hzz1 : w.heap.size < w3.heap.size := by have := hb.size; simp at this; omega
    clear hb hB2 G11 z0 z1 z2 z3 z4 z5 z6
    go_wp2
    rw [rounds_succ]
    obtain ⟨z0, z1, z2, z3, z4, z5, z6⟩ := blk7 G12.out
    go_wp2_with fail
    refine (F2.out _).mono ?_
    rintro e w4 ⟨rfl, hb⟩
    have hB4 := Lib.hid (below_then (below_alloc hB3.out _) hb)
    have G13 := Lib.hid ((G12.out.alloc _).keep hb)
    have hzz2 : w.heap.size < w4.heap.size := by have := hb.size; simp at this; omega
    clear hb hB3 G12 z0 z1 z2 z3 z4 z5 z6
    go_wp2
    rw [rounds_succ]
    obtain ⟨z0, z1, z2, z3, z4, z5, z6⟩ := blk7 G13.out
    go_wp2_with fail
    refine (F3.out _).mono ?_
    rintro e w5 ⟨rfl, hb⟩
    have hB5 := Lib.hid (below_then (below_alloc hB4.out _) hb)
    have G14 := Lib.hid ((G13.out.alloc _).keep hb)
    have hzz3 : w.heap.size < w5.heap.size := by have := hb.size; simp at this; omega
    clear hb hB4 G13 z0 z1 z2 z3 z4 z5 z6
    go_wp2
    go_ret
    exact ⟨rfl, hB5.out⟩
  rw [hf3] at F3
  go_enter Tryz.func38, Tryz.ntmps38
  go_wp2_with fail
  refine (L.out _ _ _ (Blk.new2 w _ _ _ _)).mono ?_
  rintro e w1 ⟨rfl, hb1⟩
  have G0 := Lib.hid (((Blk.new w _ _).alloc _).alloc _ |>.keep hb1)
  have G1 := Lib.hid ((Blk.new1 w _ _ _).alloc _ |>.keep hb1)
  have hB1 := Lib.hid (below_then (below_alloc (below_alloc (below_alloc (Below.refl _ _) _) _) _) hb1)
  have hz1 : w.heap.size < w1.heap.size := by have := hb1.size; simp at this; omega
  clear hb1
  obtain ⟨x0, x1, x2, x3, x4, x5, x6, x7, x8, x9, x10⟩ := blk11 G1.out
  go_wp2_with fail
  refine (N2.out _).mono ?_
  rintro e w' ⟨rfl, rfl⟩
  go_wp2_with fail
  refine (N3.out _).mono ?_
  rintro e w' ⟨rfl, rfl⟩
  go_wp2
  clear G1 L N2 N3
  refine wp_loop_rounds 5 ?_
  rw [rounds_succ]
  obtain ⟨z0, z1, z2, z3, z4, z5, z6⟩ := blk7 G0.out
  go_wp2_with fail
  refine (F0.out _).mono ?_
  rintro e w2 ⟨rfl, hb⟩
  have hB2 := Lib.hid (below_then (below_alloc hB1.out _) hb)
  have G11 := Lib.hid ((G0.out.alloc _).keep hb)
  have hzz0 : w.heap.size < w2.heap.size := by have := hb.size; simp at this; omega
  clear hb hB1 G0 z0 z1 z2 z3 z4 z5 z6
  go_wp2
  rw [rounds_succ]
  obtain ⟨z0, z1, z2, z3, z4, z5, z6⟩ := blk7 G11.out
  go_wp2_with fail
  refine (F1.out _).mono ?_
  rintro e w3 ⟨rfl, hb⟩
  have hB3 := Lib.hid (below_then (below_alloc hB2.out _) hb)
  have G12 := Lib.hid ((G11.out.alloc _).keep hb)
  have hzz1 : w.heap.size < w3.heap.size := by have := hb.size; simp at this; omega
  clear hb hB2 G11 z0 z1 z2 z3 z4 z5 z6
  go_wp2
  rw [rounds_succ]
  obtain ⟨z0, z1, z2, z3, z4, z5, z6⟩ := blk7 G12.out
  go_wp2_with fail
  refine (F2.out _).mono ?_
  rintro e w4 ⟨rfl, hb⟩
  have hB4 := Lib.hid (below_then (below_alloc hB3.out _) hb)
  have G13 := Lib.hid ((G12.out.alloc _).keep hb)
  have hzz2 : w.heap.size < w4.heap.size := by have := hb.size; simp at this; omega
  clear hb hB3 G12 z0 z1 z2 z3 z4 z5 z6
  go_wp2
  rw [rounds_succ]
  obtain ⟨z0, z1, z2, z3, z4, z5, z6⟩ := blk7 G13.out
  go_wp2_with fail
  refine (F3.out _).mono ?_
  rintro e w5 ⟨rfl, hb⟩
  have hB5 := Lib.hid (below_then (below_alloc hB4.out _) hb)
  have G14 := Lib.hid ((G13.out.alloc _).keep hb)
  have hzz3 : w.heap.size < w5.heap.size := by have := hb.size; simp at this; omega
  clear hb hB4 G13 z0 z1 z2 z3 z4 z5 z6
  go_wp2
  rw [rounds_succ]
  go_wp2
  go_ret
  exact ⟨rfl, hB5.out⟩

--MIS
end Go.Proofs.YtnafhblioabkgaaGreat
