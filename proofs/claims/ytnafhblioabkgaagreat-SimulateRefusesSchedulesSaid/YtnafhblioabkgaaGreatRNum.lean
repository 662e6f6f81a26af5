/- The reference's numbers: layers 10, 15 and 38. -/
import Derived.Test.YtnafhblioabkgaaGreatFits
import Derived.Laws.BitsLemmas
namespace Go.Proofs.YtnafhblioabkgaaGreat
open Go.RowKit

theorem rValid (t : Int) (w : World) : Calls Tryz.prog 48 #[.int .i64 t] w fun e w' => e = .returned (.bool (okT t)) ∧ w = w' := by
  go_enter Tryz.func48, Tryz.ntmps48
  go_wp2
  all_goals (go_ret; exact ⟨ret_bool (by simp [okT]; omega), rfl⟩)

theorem below_ok (a b : Int) (w : World) (a0 : 0 ≤ a) (a1 : a ≤ 9223372036854775807) (b0 : 0 < b) : Calls Tryz.prog 117 #[.int .i64 a, .int .i64 b] w fun e w' => e = .returned (.int .i64 (a / b)) ∧ w = w' := by
  have e1 : a.tdiv b = a / b := Int.tdiv_eq_ediv_of_nonneg a0
  have e2 : a.tmod b = a % b := Int.tmod_eq_emod_of_nonneg a0
  have b3 : 0 ≤ a % b := Int.emod_nonneg _ (by omega)
  have t2 : decide (a % b < 0) = false := by simp; omega
  have t3 : (b == 0) = false := by simp; omega
  have t4 : ¬ b = 0 := by omega
  have q0 : 0 ≤ a / b := Int.ediv_nonneg a0 (by omega)
  have q1 : a / b ≤ a := Int.ediv_le_self _ a0
  have w1 : IntKind.i64.wrap (a / b) = a / b := IntWalk.i64_in _ (by omega)
  go_enter Tryz.func117, Tryz.ntmps117
  go_wp2
  go_ret
  exact ⟨rfl, rfl⟩
theorem Rounded_down (a b : Int) (w : World) (a0 : 0 ≤ a) (a1 : a ≤ 9223372036854775807) (b0 : 0 < b) : Calls Tryz.prog 108 #[.int .i64 a, .int .i64 b, .bool false] w fun e w' => e = .returned (.int .i64 (a / b)) ∧ w = w' := by
  have C := Lib.hid fun W => below_ok a b W a0 (by omega) b0
  generalize a / b = q at *
  clear a0 a1
  go_enter Tryz.func108, Tryz.ntmps108
  go_wp2_with (go_at_call 117; refine (C.out _).mono ?_; rintro e w' ⟨rfl, rfl⟩)
  go_ret
  exact ⟨rfl, rfl⟩
theorem Rounded_up (a b : Int) (w : World) (a0 : 0 ≤ a) (a1 : a < 9223372036854775807) (b0 : 0 < b) : Calls Tryz.prog 108 #[.int .i64 a, .int .i64 b, .bool true] w fun e w' => e = .returned (.int .i64 (cdiv a b)) ∧ w = w' := by
  have C := Lib.hid fun W => below_ok a b W a0 (by omega) b0
  have e2 : a.tmod b = a % b := Int.tmod_eq_emod_of_nonneg a0
  have b3 : 0 ≤ a % b := Int.emod_nonneg _ (by omega)
  have q0 : 0 ≤ a / b := Int.ediv_nonneg a0 (by omega)
  have q1 : a / b ≤ a := Int.ediv_le_self _ a0
  have t3 : (b == 0) = false := by simp; omega
  have t4 : ¬ b = 0 := by omega
  rw [cdiv_eq _ _ b0]
  generalize a / b = q at *
  have w1 : IntKind.i64.wrap (q + 1) = q + 1 := IntWalk.i64_in _ (by omega)
  by_cases h : 0 < a % b
  · rw [if_pos h]
    have t5 : ((a % b) != 0) = true := by simp; omega
    have t6 : ((a % b) == 0) = false := by simp; omega
    go_enter Tryz.func108, Tryz.ntmps108
    go_wp2_with (go_at_call 117; refine (C.out _).mono ?_; rintro e w' ⟨rfl, rfl⟩)
    go_ret
    exact ⟨rfl, rfl⟩
  · rw [if_neg h]
    have t5 : a % b = 0 := by omega
    go_enter Tryz.func108, Tryz.ntmps108
    go_wp2_with (go_at_call 117; refine (C.out _).mono ?_; rintro e w' ⟨rfl, rfl⟩)
    go_ret
    exact ⟨rfl, rfl⟩

theorem and31 (x : Int) (h0 : 0 ≤ x) (h1 : x < 9223372036854775808) : bits .and .i64 x 2147483647 = x % 2147483648 :=
  bits_mask .i64 63 (by decide) (fun n h0 h1 => IntWalk.i64_in _ (by omega)) 31 (by decide) x h0 h1
theorem or31 (x y : Int) (h0 : 0 ≤ x) (h1 : x < 2147483648) (y0 : 0 ≤ y) (y1 : y < 2147483648) : bits .or .i64 (x * 2147483648) y = x * 2147483648 + y :=
  bits_join .i64 63 (by decide) (fun n h0 h1 => IntWalk.i64_in _ (by omega)) 31 (x * 2147483648) y (by omega) (by omega) (by omega) y0 (by omega) (by omega)
theorem product_ok (a b : Int) (w : World) (a0 : 0 ≤ a) (a1 : a ≤ 1152921504606846976) (b0 : 0 ≤ b) (b1 : b ≤ 1152921504606846976) : Calls Tryz.prog 95 #[.int .i64 a, .int .i64 b] w fun e w' => e = .returned (.tuple #[.int .i64 (a * b / 4611686018427387904), .int .i64 (a * b % 4611686018427387904)]) ∧ w = w' := by
  have n1 := and31 a a0 (by omega)
  have n2 := and31 b b0 (by omega)
  obtain ⟨x1, hx1⟩ : ∃ x1, a / 2147483648 = x1 := ⟨_, rfl⟩
  obtain ⟨x0, hx0⟩ : ∃ x0, a % 2147483648 = x0 := ⟨_, rfl⟩
  obtain ⟨y1, hy1⟩ : ∃ y1, b / 2147483648 = y1 := ⟨_, rfl⟩
  obtain ⟨y0, hy0⟩ : ∃ y0, b % 2147483648 = y0 := ⟨_, rfl⟩
  rw [hx0] at n1
  rw [hy0] at n2
  have ea : a = x1 * 2147483648 + x0 := by omega
  have eb : b = y1 * 2147483648 + y0 := by omega
  have u1 : 0 ≤ x1 ∧ x1 ≤ 536870912 := by omega
  have u0 : 0 ≤ x0 ∧ x0 ≤ 2147483647 := by omega
  have v1 : 0 ≤ y1 ∧ y1 ≤ 536870912 := by omega
  have v0 : 0 ≤ y0 ∧ y0 ≤ 2147483647 := by omega
  have eab : a * b = x1 * y1 * 4611686018427387904 + (x1 * y0 + x0 * y1) * 2147483648 + x0 * y0 := by
    rw [ea, eb]
    simp only [Int.add_mul, Int.mul_add]
    have e1 : x1 * 2147483648 * (y1 * 2147483648) = x1 * y1 * 4611686018427387904 := by
      rw [Int.mul_assoc, Int.mul_left_comm 2147483648 y1, ← Int.mul_assoc]; rfl
    have e2 : x1 * 2147483648 * y0 = x1 * y0 * 2147483648 := by rw [Int.mul_right_comm]
    have e3 : x0 * (y1 * 2147483648) = x0 * y1 * 2147483648 := by rw [Int.mul_assoc]
    omega
  have p1 := Int.mul_le_mul u0.2 v0.2 v0.1 (show (0 : Int) ≤ 2147483647 by omega)
  have p2 := Int.mul_le_mul u1.2 v0.2 v0.1 (show (0 : Int) ≤ 536870912 by omega)
  have p3 := Int.mul_le_mul u0.2 v1.2 v1.1 (show (0 : Int) ≤ 2147483647 by omega)
  have p4 := Int.mul_le_mul u1.2 v1.2 v1.1 (show (0 : Int) ≤ 536870912 by omega)
  have q1 := Int.mul_nonneg u0.1 v0.1
  have q2 := Int.mul_nonneg u1.1 v0.1
  have q3 := Int.mul_nonneg u0.1 v1.1
  have q4 := Int.mul_nonneg u1.1 v1.1
  rw [eab]
  obtain ⟨low, hlow⟩ : ∃ low, x0 * y0 = low := ⟨_, rfl⟩
  obtain ⟨m1, hm1⟩ : ∃ m1, x1 * y0 = m1 := ⟨_, rfl⟩
  obtain ⟨m2, hm2⟩ : ∃ m2, x0 * y1 = m2 := ⟨_, rfl⟩
  obtain ⟨h2, hh2⟩ : ∃ h2, x1 * y1 = h2 := ⟨_, rfl⟩
  rw [hlow, hm1, hm2, hh2]
  rw [hlow] at p1 q1
  rw [hm1] at p2 q2
  rw [hm2] at p3 q3
  rw [hh2] at p4 q4
  clear ea eb eab a0 a1 b0 b1
  obtain ⟨mid, hmid⟩ : ∃ mid, m1 + low / 2147483648 = mid := ⟨_, rfl⟩
  obtain ⟨mid2, hmid2⟩ : ∃ mid2, m2 + mid % 2147483648 = mid2 := ⟨_, rfl⟩
  have w1 : IntKind.i64.wrap (x0 * y0) = low := by rw [hlow]; exact IntWalk.i64_in _ (by omega)
  have w2 : IntKind.i64.wrap (x1 * y0) = m1 := by rw [hm1]; exact IntWalk.i64_in _ (by omega)
  have w3 : IntKind.i64.wrap (x0 * y1) = m2 := by rw [hm2]; exact IntWalk.i64_in _ (by omega)
  have w4 : IntKind.i64.wrap (x1 * y1) = h2 := by rw [hh2]; exact IntWalk.i64_in _ (by omega)
  have w5 : IntKind.i64.wrap (m1 + low / 2147483648) = mid := by rw [hmid]; exact IntWalk.i64_in _ (by omega)
  have n3 : bits .and .i64 mid 2147483647 = mid % 2147483648 := and31 mid (by omega) (by omega)
  have w6 : IntKind.i64.wrap (m2 + mid % 2147483648) = mid2 := by rw [hmid2]; exact IntWalk.i64_in _ (by omega)
  have n4 : bits .and .i64 mid2 2147483647 = mid2 % 2147483648 := and31 mid2 (by omega) (by omega)
  have n5 : bits .and .i64 low 2147483647 = low % 2147483648 := and31 low (by omega) (by omega)
  have w7 : IntKind.i64.wrap (h2 + mid / 2147483648) = h2 + mid / 2147483648 := IntWalk.i64_in _ (by omega)
  have w8 : IntKind.i64.wrap (h2 + mid / 2147483648 + mid2 / 2147483648) = h2 + mid / 2147483648 + mid2 / 2147483648 := IntWalk.i64_in _ (by omega)
  have w9 : IntKind.i64.wrap (mid2 % 2147483648 * 2147483648) = mid2 % 2147483648 * 2147483648 := IntWalk.i64_in _ (by omega)
  have n6 : bits .or .i64 (mid2 % 2147483648 * 2147483648) (low % 2147483648) = mid2 % 2147483648 * 2147483648 + low % 2147483648 := or31 _ _ (by omega) (by omega) (by omega) (by omega)
  have r1 : (h2 * 4611686018427387904 + (m1 + m2) * 2147483648 + low) / 4611686018427387904 = h2 + mid / 2147483648 + mid2 / 2147483648 := by omega
  have r2 : (h2 * 4611686018427387904 + (m1 + m2) * 2147483648 + low) % 4611686018427387904 = mid2 % 2147483648 * 2147483648 + low % 2147483648 := by omega
  rw [r1, r2]
  clear r1 r2 hmid hmid2 hlow hm1 hm2 hh2 hx0 hy0 p1 p2 p3 p4
  go_enter Tryz.func95, Tryz.ntmps95
  go_wp2
  go_ret2
  exact ⟨rfl, rfl⟩

theorem atMost_ok (a b c d : Int) (w : World) (a0 : 0 ≤ a) (a1 : a ≤ 1152921504606846976) (b0 : 0 ≤ b) (b1 : b ≤ 1152921504606846976) (c0 : 0 ≤ c) (c1 : c ≤ 1152921504606846976) (d0 : 0 ≤ d) (d1 : d ≤ 1152921504606846976) :
    Calls Tryz.prog 76 #[.int .i64 a, .int .i64 b, .int .i64 c, .int .i64 d] w fun e w' => e = .returned (.bool (decide (a * b ≤ c * d))) ∧ w = w' := by
  have P1 := Lib.hid fun W => product_ok a b W a0 a1 b0 b1
  have P2 := Lib.hid fun W => product_ok c d W c0 c1 d0 d1
  have e : decide (a * b ≤ c * d) = (decide (a * b / 4611686018427387904 < c * d / 4611686018427387904) || ((a * b / 4611686018427387904 == c * d / 4611686018427387904) && decide (a * b % 4611686018427387904 ≤ c * d % 4611686018427387904))) := by
    rw [Bool.eq_iff_iff]
    simp only [Bool.or_eq_true, Bool.and_eq_true, decide_eq_true_eq, beq_iff_eq]
    omega
  rw [e]
  clear e
  generalize a * b / 4611686018427387904 = ph at *
  generalize a * b % 4611686018427387904 = pl at *
  generalize c * d / 4611686018427387904 = qh at *
  generalize c * d % 4611686018427387904 = ql at *
  clear a0 a1 b0 b1 c0 c1 d0 d1
  cases h1 : decide (ph < qh) <;> cases h2 : (ph == qh)
  all_goals
    go_enter Tryz.func76, Tryz.ntmps76
    go_wp2_with fail
    refine (P1.out _).mono ?_
    rintro e w1 ⟨rfl, rfl⟩
    go_wp2_with fail
    refine (P2.out _).mono ?_
    rintro e w1 ⟨rfl, rfl⟩
    go_wp2
    go_ret
    exact ⟨ret_bool (by simp), rfl⟩
theorem rFits_ok (e d p : Int) (w : World) (e0 : 0 ≤ e) (e1 : e ≤ 1125899906842624) (d0 : 0 ≤ d) (d1 : d ≤ 1125899906842624) (p0 : 0 ≤ p) (p1 : p ≤ 1000000) :
    Calls Tryz.prog 54 #[.int .i64 e, .int .i64 d, .int .i64 p] w fun r w' => r = .returned (.bool (fitsM e d p)) ∧ w = w' := by
  have C1 := Lib.hid fun W => atMost_ok e (1000000000 - p) d 1000000000 W e0 (by omega) (by omega) (by omega) d0 (by omega) (by omega) (by omega)
  have C2 := Lib.hid fun W => atMost_ok d 1000000000 e (1000000000 + p) W d0 (by omega) (by omega) (by omega) e0 (by omega) (by omega) (by omega)
  unfold fitsM
  have w1 : IntKind.i64.wrap (1000000000 - p) = 1000000000 - p := IntWalk.i64_in _ (by omega)
  have w2 : IntKind.i64.wrap (1000000000 + p) = 1000000000 + p := IntWalk.i64_in _ (by omega)
  have t1 : decide (e < 0) = false := by simp; omega
  have t2 : decide (1152921504606846976 < e) = false := by simp; omega
  have t3 : decide (d < 0) = false := by simp; omega
  have t4 : decide (1152921504606846976 < d) = false := by simp; omega
  have t5 : decide (p < 0) = false := by simp; omega
  have t6 : decide (1000000 < p) = false := by simp; omega
  generalize decide (e * (1000000000 - p) ≤ d * 1000000000) = x at *
  generalize decide (d * 1000000000 ≤ e * (1000000000 + p)) = y at *
  cases x
  all_goals
    go_enter Tryz.func54, Tryz.ntmps54
    go_wp2_with fail
    refine (C1.out _).mono ?_
    rintro e w1 ⟨rfl, rfl⟩
    go_wp2_with (go_at_call 76; refine (C2.out _).mono ?_; rintro e w2 ⟨rfl, rfl⟩)
    go_ret
    exact ⟨ret_bool (by simp), rfl⟩

/-- The reference's way to a * b / c. -/
theorem ratio_arith (a b c : Int) (hc : 0 < c) : a / c * b + (a - a / c * c) * b / c = a * b / c := by
  have h := Int.mul_ediv_add_emod a c
  have e : a * b = (a - a / c * c) * b + c * (a / c * b) := by
    rw [Int.sub_mul, Int.mul_comm c, Int.mul_right_comm (a / c) c b]; omega
  rw [e, Int.add_mul_ediv_left _ _ (by omega)]
  omega
theorem ratio_arith_up (a b c : Int) (hc : 0 < c) : a / c * b + cdiv ((a - a / c * c) * b) c = cdiv (a * b) c := by
  unfold cdiv
  have e : a * b + c - 1 = ((a - a / c * c) * b + c - 1) + c * (a / c * b) := by
    rw [Int.sub_mul, Int.mul_comm c, Int.mul_right_comm (a / c) c b]; omega
  rw [e, Int.add_mul_ediv_left _ _ (by omega)]
  omega
end Go.Proofs.YtnafhblioabkgaaGreat
