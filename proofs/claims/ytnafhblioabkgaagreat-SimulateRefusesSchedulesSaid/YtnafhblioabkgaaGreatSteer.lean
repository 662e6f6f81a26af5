/- What the program's layers 38 and 23 answer, for numbers in their ranges. -/
import Derived.Test.YtnafhblioabkgaaGreatLearn
import Derived.WalkLawsBesides
import Derived.IntWalk
import Derived.Deep.RegionHeld3
namespace Go.Proofs.YtnafhblioabkgaaGreat
open Go.RowKit

theorem Div64_10' (hi lo : Int) (w : World) (i0 : 0 ≤ hi) (i1 : hi < 1000) (l0 : 0 ≤ lo) (l1 : lo < 18446744073709551616) :
    Calls Tryz.prog 98 #[.int .u64 hi, .int .u64 lo, .int .u64 1000] w fun e w' => e = .returned (.tuple #[.int .u64 ((hi * 18446744073709551616 + lo) / 1000), .int .u64 ((hi * 18446744073709551616 + lo) % 1000)]) ∧ ∃ n, w' = w.drewN n := by
  rcases Int.lt_or_eq_of_le i0 with h | rfl
  · exact (Div64_10 hi lo 1000 w (by omega) (by omega) h i1 l0 l1).mono fun _ _ ⟨a, b⟩ => ⟨a, 0, b.symm⟩
  · refine (Div64_zero lo 1000 w (by omega) (by omega) l0 l1).mono ?_
    rintro e w' ⟨rfl, n, rfl⟩
    exact ⟨by simp, n, rfl⟩

theorem Down_of (a b c : Int) (w : World) (a0 : 0 ≤ a) (a1 : a ≤ 9223372036854775807) (b0 : 0 ≤ b) (b1 : b ≤ 9223372036854775807) (c0 : 0 ≤ c) (c1 : c ≤ 9223372036854775807) (q0 : 0 ≤ a * b / c) (q1 : a * b / c ≤ 9223372036854775807)
    (D : ∀ W, Calls Tryz.prog 98 #[.int .u64 (a * b / 18446744073709551616), .int .u64 (a * b % 18446744073709551616), .int .u64 c] W fun e w' => e = .returned (.tuple #[.int .u64 (a * b / c), .int .u64 (a * b % c)]) ∧ ∃ n, w' = W.drewN n) :
    Calls Tryz.prog 86 #[.int .i64 a, .int .i64 b, .int .i64 c] w fun e w' => e = .returned (.int .i64 (a * b / c)) ∧ ∃ n, w' = w.drewN n := by
  have M := fun W => Mul64 a b W a0 (by omega) b0 (by omega)
  have D' := Lib.hid D
  clear D
  generalize a * b % c = r at *
  generalize a * b / c = q at *
  generalize a * b / 18446744073709551616 = hi at *
  generalize a * b % 18446744073709551616 = lo at *
  have M' := Lib.hid M
  clear M
  go_enter Tryz.func86, Tryz.ntmps86
  go_wp2_with (first | (go_at_call 96; refine (M'.out _).mono ?_; rintro e w' ⟨rfl, rfl⟩) | (go_at_call 98; refine (D'.out _).mono ?_; rintro e w' ⟨rfl, n, rfl⟩))
  go_ret
  exact ⟨rfl, _, rfl⟩
theorem whole_of (x : Int) : x / 18446744073709551616 * 18446744073709551616 + x % 18446744073709551616 = x := by
  have := Int.mul_ediv_add_emod x 18446744073709551616
  omega
theorem Down_rate (d r : Int) (w : World) (d0 : 0 ≤ d) (d1 : d ≤ 2305843009213693952) (r0 : 0 ≤ r) (r1 : r ≤ 1000000000) :
    Calls Tryz.prog 86 #[.int .i64 d, .int .i64 r, .int .i64 1000000000] w fun e w' => e = .returned (.int .i64 (d * r / 1000000000)) ∧ ∃ n, w' = w.drewN n := by
  have b := rate_le d0 r0 r1
  have p0 : 0 ≤ d * r := Int.mul_nonneg d0 r0
  have p1 : d * r ≤ 2305843009213693952 * 1000000000 := Int.mul_le_mul d1 r1 r0 (by omega)
  refine Down_of d r 1000000000 w d0 (by omega) r0 (by omega) (by omega) (by omega) b.1 (by omega) fun W => ?_
  have := Div64_30' (d * r / 18446744073709551616) (d * r % 18446744073709551616) 1000000000 W (by omega) (by omega) (by omega) (by omega) (by omega) (by omega)
  rwa [whole_of] at this
theorem Down_aim (d a : Int) (w : World) (d0 : 0 ≤ d) (d1 : d ≤ 2305843009213693952) (a0 : 0 ≤ a) (a1 : a ≤ 1000) :
    Calls Tryz.prog 86 #[.int .i64 d, .int .i64 a, .int .i64 1000] w fun e w' => e = .returned (.int .i64 (d * a / 1000)) ∧ ∃ n, w' = w.drewN n := by
  have p0 : 0 ≤ d * a := Int.mul_nonneg d0 a0
  have p1 : d * a ≤ 2305843009213693952 * 1000 := Int.mul_le_mul d1 a1 a0 (by omega)
  have q0 : 0 ≤ d * a / 1000 := Int.ediv_nonneg p0 (by omega)
  refine Down_of d a 1000 w d0 (by omega) a0 (by omega) (by omega) (by omega) q0 (by omega) fun W => ?_
  have := Div64_10' (d * a / 18446744073709551616) (d * a % 18446744073709551616) W (by omega) (by omega) (by omega) (by omega)
  rwa [whole_of] at this

theorem Width_ok (lo hi : Int) (w : World) (h : okS lo hi = true) : Calls Tryz.prog 105 #[.agg #[.int .i64 lo, .int .i64 hi]] w fun e w' => e = .returned (.int .i64 (hi - lo)) ∧ Below w.heap.size w w' := by
  have s := okS_iff.1 h
  have V := Lib.hid fun W => okS_valid lo hi W h
  clear h
  go_enter Tryz.func105, Tryz.ntmps105
  go_wp2_with fail
  refine (V.out _).mono ?_
  rintro e w1 ⟨rfl, hb1⟩
  obtain ⟨a0, a1, _, _⟩ := blk2 ((Blk.new _ _ _).keep hb1)
  have hB1 := Lib.hid (below_then (below_alloc (Below.refl _ _) _) hb1)
  clear hb1
  go_wp2
  go_ret
  exact ⟨rfl, hB1.out⟩

theorem Target_ok (lo hi aim : Int) (w : World) (h : okS lo hi = true) (a0 : 0 ≤ aim) (a1 : aim ≤ 1000) : Calls Tryz.prog 85 #[.agg #[.int .i64 lo, .int .i64 hi], .int .i64 aim] w fun e w' => e = .returned (.tuple #[.int .i64 (target lo hi aim), .int .i64 0]) ∧ Below w.heap.size w w' := by
  have s := okS_iff.1 h
  have V := Lib.hid fun W => okS_valid lo hi W h
  have Wd := Lib.hid fun W => Width_ok lo hi W h
  have D := Lib.hid fun W => Down_aim (hi - lo) aim W (by omega) (by omega) a0 a1
  have b := target_le s.2.1 a0 a1
  unfold target at *
  generalize (hi - lo) * aim / 1000 = x at *
  have t1 : decide (aim < 0) = false := by simp; omega
  have t2 : decide (1000 < aim) = false := by simp; omega
  clear h
  go_enter Tryz.func85, Tryz.ntmps85
  go_wp2_with fail
  refine (V.out _).mono ?_
  rintro e w1 ⟨rfl, hb1⟩
  have G := Lib.hid ((Blk.new _ _ _).keep hb1)
  obtain ⟨c0, c1, _, _⟩ := blk2 G.out
  have hB1 := Lib.hid (below_then (below_alloc (Below.refl _ _) _) hb1)
  clear hb1
  have e9 : IntKind.i64.wrap (lo + x) = lo + x := IntWalk.i64_in _ (by omega)
  go_wp2
  go_region_held3 (fun w' => w'.cell? ⟨w.heap.size, 0, none⟩ = some (.int .i64 lo) ∧ w'.cell? ⟨w.heap.size, 1, none⟩ = some (.int .i64 hi)) (first | go_keep | (exact held2 (by assumption) hb)) (first | (go_at_call 105; refine (Wd.out _).mono ?_; rintro e w' ⟨rfl, hb⟩) | (go_at_call 86; refine (D.out _).mono ?_; rintro e w' ⟨rfl, n, rfl⟩))
  all_goals go_wp2
  all_goals go_ret2
  all_goals exact ⟨rfl, by repeat (with_reducible first | exact hB1.out | refine below_drew ?_ | refine below_drewN ?_ _ | refine below_then ?_ (by assumption))⟩

theorem steer_Check (c : Ck) (w : World) (a0 : 0 ≤ c.aim) (a1 : c.aim ≤ 1000) (r0 : 0 ≤ c.rate) (r1 : c.rate ≤ 1000000000) (ha : okT c.a = true) (hs : okT c.shown = true) :
    Calls Tryz.prog 84 #[.agg #[.int .i64 c.aim, .int .i64 c.rate, .bool c.set, .bool c.held, .int .i64 c.a, .int .i64 c.shown]] w fun e w' => e = .returned (.int .i64 0) ∧ Below w.heap.size w w' := by
  obtain ⟨aim, rate, set, held, a, shown⟩ := c
  dsimp only at *
  have A := Lib.hid fun W => ticks_Valid a W
  rw [ha] at A
  have S := Lib.hid fun W => ticks_Valid shown W
  rw [hs] at S
  clear ha hs
  have t1 : decide (aim < 0) = false := by simp; omega
  have t2 : decide (1000 < aim) = false := by simp; omega
  have t3 : decide (rate < 0) = false := by simp; omega
  have t4 : decide (1000000000 < rate) = false := by simp; omega
  go_enter Tryz.func84, Tryz.ntmps84
  go_wp2_with fail
  refine (A.out _).mono ?_
  rintro e w1 ⟨rfl, rfl⟩
  go_wp2_with fail
  refine (S.out _).mono ?_
  rintro e w1 ⟨rfl, rfl⟩
  go_wp2
  go_ret
  exact ⟨rfl, below_alloc (Below.refl _ _) _⟩
end Go.Proofs.YtnafhblioabkgaaGreat
