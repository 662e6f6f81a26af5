/- What the program's layers 11, 15 and 37 answer, for the numbers that occur. -/
import Derived.Test.YtnafhblioabkgaaGreatNum
import Derived.Test.YtnafhblioabkgaaGreatMem
namespace Go.Proofs.YtnafhblioabkgaaGreat
open Go.RowKit

theorem magnitude_pos (a : Int) (w : World) (h : 0 ≤ a) (h' : a ≤ 9223372036854775807) : Calls Tryz.prog 97 #[.int .i64 a] w fun e w' => e = .returned (.int .u64 a) ∧ w = w' := by
  have t1 : decide (a < 0) = false := by simp; omega
  go_enter Tryz.func97, Tryz.ntmps97
  go_wp2
  go_ret
  exact ⟨rfl, rfl⟩

theorem Div64_30' (hi lo c : Int) (w : World) (h0 : 536870912 ≤ c) (h1 : c < 1073741824) (i0 : 0 ≤ hi) (i1 : hi < c) (l0 : 0 ≤ lo) (l1 : lo < 18446744073709551616) :
    Calls Tryz.prog 98 #[.int .u64 hi, .int .u64 lo, .int .u64 c] w fun e w' => e = .returned (.tuple #[.int .u64 ((hi * 18446744073709551616 + lo) / c), .int .u64 ((hi * 18446744073709551616 + lo) % c)]) ∧ ∃ n, w' = w.drewN n := by
  rcases Int.lt_or_eq_of_le i0 with h | rfl
  · exact (Div64_30 hi lo c w h0 h1 h i1 l0 l1).mono fun _ _ ⟨a, b⟩ => ⟨a, 0, b.symm⟩
  · refine (Div64_zero lo c w (by omega) h1 l0 l1).mono ?_
    rintro e w' ⟨rfl, n, rfl⟩
    exact ⟨by simp, n, rfl⟩

theorem Quotient_down (a b c : Int) (w : World) (a0 : 0 ≤ a) (a1 : a ≤ 1152921504606846976) (b0 : 0 ≤ b) (b1 : b < 1073741824) (c0 : 536870912 ≤ c) (c1 : c < 1073741824) (q1 : a * b / c ≤ 9223372036854775807) :
    Calls Tryz.prog 78 #[.int .i64 a, .int .i64 b, .int .i64 c, .bool false] w fun e w' => e = .returned (.int .i64 (a * b / c)) ∧ ∃ n, w' = w.drewN n := by
  have t1 : decide (a < 0) = false := by simp; omega
  have p0 : 0 ≤ a * b := Int.mul_nonneg a0 b0
  have p1 : a * b ≤ 1152921504606846976 * 1073741824 := Int.mul_le_mul a1 (by omega) b0 (by omega)
  have q0 : 0 ≤ a * b / c := Int.ediv_nonneg p0 (by omega)
  have e0 := Int.mul_ediv_add_emod (a * b) 18446744073709551616
  have e1 : a * b / 18446744073709551616 * 18446744073709551616 + a * b % 18446744073709551616 = a * b := by omega
  have D := fun W => Div64_30' (a * b / 18446744073709551616) (a * b % 18446744073709551616) c W c0 c1 (by omega) (by omega) (by omega) (by omega)
  rw [e1] at D
  clear e0 e1
  have D' := Lib.hid D
  clear D
  generalize a * b % c = r at *
  generalize a * b / c = q at *
  have M := fun W => Mul64 a b W a0 (by omega) b0 (by omega)
  generalize a * b / 18446744073709551616 = hi at *
  generalize a * b % 18446744073709551616 = lo at *
  have M' := Lib.hid M
  clear M p0 p1
  go_enter Tryz.func78, Tryz.ntmps78
  go_wp2_with (first | (go_at_call 97; refine (magnitude_pos _ _ (by omega) (by omega)).mono ?_; rintro e w' ⟨rfl, rfl⟩) | (go_at_call 96; refine (M'.out _).mono ?_; rintro e w' ⟨rfl, rfl⟩) | (go_at_call 98; refine (D'.out _).mono ?_; rintro e w' ⟨rfl, n, rfl⟩))
  go_ret
  exact ⟨rfl, _, rfl⟩

theorem Quotient_up (a b c : Int) (w : World) (a0 : 0 ≤ a) (a1 : a ≤ 1152921504606846976) (b0 : 0 ≤ b) (b1 : b < 1073741824) (c0 : 536870912 ≤ c) (c1 : c < 1073741824) (q1 : cdiv (a * b) c ≤ 9223372036854775807) :
    Calls Tryz.prog 78 #[.int .i64 a, .int .i64 b, .int .i64 c, .bool true] w fun e w' => e = .returned (.int .i64 (cdiv (a * b) c)) ∧ ∃ n, w' = w.drewN n := by
  have t1 : decide (a < 0) = false := by simp; omega
  have p0 : 0 ≤ a * b := Int.mul_nonneg a0 b0
  have p1 : a * b ≤ 1152921504606846976 * 1073741824 := Int.mul_le_mul a1 (by omega) b0 (by omega)
  have q0 : 0 ≤ a * b / c := Int.ediv_nonneg p0 (by omega)
  have e0 := Int.mul_ediv_add_emod (a * b) 18446744073709551616
  have e1 : a * b / 18446744073709551616 * 18446744073709551616 + a * b % 18446744073709551616 = a * b := by omega
  have D := fun W => Div64_30' (a * b / 18446744073709551616) (a * b % 18446744073709551616) c W c0 c1 (by omega) (by omega) (by omega) (by omega)
  rw [e1] at D
  clear e0 e1
  have D' := Lib.hid D
  clear D
  rw [cdiv_eq _ _ (by omega)] at q1 ⊢
  generalize a * b % c = r at *
  generalize a * b / c = q at *
  have M := fun W => Mul64 a b W a0 (by omega) b0 (by omega)
  generalize a * b / 18446744073709551616 = hi at *
  generalize a * b % 18446744073709551616 = lo at *
  have M' := Lib.hid M
  clear M p0 p1
  by_cases hr : 0 < r
  · rw [if_pos hr] at q1 ⊢
    have t2 : decide (r > 0) = true := by simp; omega
    go_enter Tryz.func78, Tryz.ntmps78
    go_wp2_with (first | (go_at_call 97; refine (magnitude_pos _ _ (by omega) (by omega)).mono ?_; rintro e w' ⟨rfl, rfl⟩) | (go_at_call 96; refine (M'.out _).mono ?_; rintro e w' ⟨rfl, rfl⟩) | (go_at_call 98; refine (D'.out _).mono ?_; rintro e w' ⟨rfl, n, rfl⟩))
    go_ret
    exact ⟨rfl, _, rfl⟩
  · rw [if_neg hr] at q1 ⊢
    have t2 : decide (r > 0) = false := by simp; omega
    go_enter Tryz.func78, Tryz.ntmps78
    go_wp2_with (first | (go_at_call 97; refine (magnitude_pos _ _ (by omega) (by omega)).mono ?_; rintro e w' ⟨rfl, rfl⟩) | (go_at_call 96; refine (M'.out _).mono ?_; rintro e w' ⟨rfl, rfl⟩) | (go_at_call 98; refine (D'.out _).mono ?_; rintro e w' ⟨rfl, n, rfl⟩))
    go_ret
    exact ⟨rfl, _, rfl⟩

theorem drift_in_yes (d p : Int) (w : World) (d0 : 0 ≤ d) (d1 : d ≤ 576460752303423488) (p0 : 0 ≤ p) (p1 : p ≤ 1000000) :
    Calls Tryz.prog 77 #[.int .i64 d, .int .i64 p] w fun e w' => e = .returned (.bool true) ∧ w = w' := by
  have hb : ∀ W, Calls Tryz.prog 88 #[.int .i64 p] W fun e w' => e = .returned (.bool true) ∧ W = w' := fun W => by
    go_enter Tryz.func88, Tryz.ntmps88
    go_wp2
    go_ret
    exact ⟨ret_bool (by first | (simp; done) | (simp; omega)), rfl⟩
  have hb' := Lib.hid hb
  clear hb
  go_enter Tryz.func77, Tryz.ntmps77
  go_wp2_with (go_at_call 88; refine (hb'.out _).mono ?_; rintro e w' ⟨rfl, rfl⟩)
  go_ret
  exact ⟨ret_bool (by first | (simp; done) | (simp; omega)), rfl⟩

theorem Elapsed_ok (d p : Int) (w : World) (d0 : 0 ≤ d) (d1 : d ≤ 576460752303423488) (p0 : 0 ≤ p) (p1 : p ≤ 1000000) :
    Calls Tryz.prog 57 #[.int .i64 d, .int .i64 p] w fun e w' => e = .returned (.tuple #[.agg #[.int .i64 (elLo d p), .int .i64 (elHi d p)], .int .i64 0]) ∧ Below w.heap.size w w' := by
  have h1 := elLo_le d0 p0
  have h2 := elHi_le d0 p0 p1
  unfold elLo elHi at *
  have L := Lib.hid fun W => Quotient_down d 1000000000 (1000000000 + p) W d0 (by omega) (by omega) (by omega) (by omega) (by omega) (by omega)
  have U := Lib.hid fun W => Quotient_up d 1000000000 (1000000000 - p) W d0 (by omega) (by omega) (by omega) (by omega) (by omega) (by omega)
  clear h1 h2
  generalize d * 1000000000 / (1000000000 + p) = lo at *
  generalize cdiv (d * 1000000000) (1000000000 - p) = hi at *
  go_enter Tryz.func57, Tryz.ntmps57
  go_wp2_with (first | (go_at_call 77; refine (drift_in_yes _ _ _ d0 d1 p0 p1).mono ?_; rintro e w' ⟨rfl, rfl⟩) | fail)
  refine (L.out _).mono ?_
  rintro e w' ⟨rfl, n, rfl⟩
  go_wp2_with fail
  refine (U.out _).mono ?_
  rintro e w' ⟨rfl, m, rfl⟩
  go_wp2
  exact bodyPost_ret (v := .tuple #[.agg #[.int .i64 lo, .int .i64 hi], .int .i64 0]) (by simp [results, Tryz.results57, go_sem]) rfl ⟨rfl, by repeat (first | exact Below.refl _ _ | refine below_alloc ?_ _ | refine below_drewN ?_ _ | refine below_set ?_ (by simp) _)⟩
end Go.Proofs.YtnafhblioabkgaaGreat
