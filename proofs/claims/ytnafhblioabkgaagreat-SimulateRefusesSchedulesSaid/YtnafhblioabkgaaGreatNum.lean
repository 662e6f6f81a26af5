/- What math/bits, exact and wide answer, for the numbers that occur: products, and quotients by numbers below 2^30. -/
import Derived.Test.YtnafhblioabkgaaGreatLeaf
import Derived.BigQuiet
import Derived.Deep.QuietTactic
import Derived.Laws.BitsLemmas
import Derived.Laws.Bits64
import Derived.Laws.BitsAllLaws
import Derived.Test.YtnafhblioabkgaaGreatShelf
namespace Go.Proofs.YtnafhblioabkgaaGreat
open Go.RowKit

theorem ret_two {k : IntKind} {a b c d : Int} (h : a = b) (h' : c = d) : Ending.returned (.tuple #[.int k a, .int k c]) = .returned (.tuple #[.int k b, .int k d]) := by rw [h, h']
theorem wraps_u64 (n : Int) (h₀ : 0 ≤ n) (h₁ : n < 2 ^ 64) : IntKind.u64.wrap n = n := by rw [IntKind.wrap_u64]; omega
theorem Div64_zero (lo c : Int) (w : World) (h0 : 0 < c) (h1 : c < 1073741824) (l0 : 0 ≤ lo) (l1 : lo < 18446744073709551616) :
    Calls Tryz.prog 98 #[.int .u64 0, .int .u64 lo, .int .u64 c] w fun e w' => e = .returned (.tuple #[.int .u64 (lo / c), .int .u64 (lo % c)]) ∧ ∃ n, w' = w.drewN n := by
  have t1 : (c == 0) = false := by simp; omega
  have t2 : decide (c ≤ 0) = false := by simp; omega
  have e1 : lo.tdiv c = lo / c := Int.tdiv_eq_ediv_of_nonneg l0
  have e2 : lo.tmod c = lo % c := Int.tmod_eq_emod_of_nonneg l0
  have b1 : 0 ≤ lo / c := Int.ediv_nonneg l0 (by omega)
  have b2 : lo / c ≤ lo := Int.ediv_le_self _ l0
  have b3 : 0 ≤ lo % c := Int.emod_nonneg _ (by omega)
  have b4 : lo % c < c := Int.emod_lt_of_pos _ h0
  go_enter Tryz.func98, Tryz.ntmps98
  go_wp2
  go_quiet (fail)
  go_wp2
  go_ret2
  exact ⟨rfl, _, rfl⟩

theorem LZ30 (c : Int) (w : World) (h0 : 536870912 ≤ c) (h1 : c < 1073741824) :
    Calls Tryz.prog 111 #[.int .u64 c] w fun e w' => e = .returned (.int .i64 34) ∧ w = w' := by
  refine (Tryz.bits_LeadingZeros64 c w (by omega) (by omega)).mono ?_
  rintro e w' ⟨rfl, rfl⟩
  have hl : Lib.bitLen c.toNat = 30 := by
    rw [Lib.bitLen_shift 29 c.toNat (by omega) (by omega), show c.toNat / 2 ^ 29 = 1 from by omega]; rfl
  exact ⟨by rw [hl]; rfl, rfl⟩
theorem Div64_30_arith (hi lo c U L q1 p1 V q0 p0 : Int) (hU : U = hi * 17179869184 + lo / 1073741824) (hL : L = lo % 1073741824) (_hq1 : q1 = U / (c * 4)) (hp1 : p1 = q1 * (c * 4)) (hV : V = (U - p1) * 4294967296 + L * 4) (hq0 : q0 = V / (c * 4)) (hp0 : p0 = q0 * (c * 4)) (hc : 0 < c) :
    q1 * 4294967296 + q0 = (hi * 18446744073709551616 + lo) / c ∧ (V - p0) / 4 = (hi * 18446744073709551616 + lo) % c := by
  have e1 : (hi * 18446744073709551616 + lo) * 4 = (q1 * 4294967296 + q0) * (c * 4) + (V - p0) := by
    have : (q1 * 4294967296 + q0) * (c * 4) = p1 * 4294967296 + p0 := by rw [Int.add_mul, hp1, hp0, Int.mul_right_comm]
    rw [this]; omega
  have e2 : 0 ≤ V - p0 ∧ V - p0 < c * 4 := by
    have n4 := Int.emod_nonneg V (show c * 4 ≠ 0 by omega)
    have n5 := Int.emod_lt_of_pos V (show 0 < c * 4 by omega)
    have n6 := Int.mul_ediv_add_emod V (c * 4)
    rw [← hq0, Int.mul_comm, ← hp0] at n6
    omega
  have e3 : ((q1 * 4294967296 + q0) * (c * 4)) = ((q1 * 4294967296 + q0) * c) * 4 := by rw [Int.mul_assoc]
  rw [e3] at e1
  have e4 : (hi * 18446744073709551616 + lo) - (q1 * 4294967296 + q0) * c = (V - p0) / 4 := by omega
  have e5 : 0 ≤ (V - p0) / 4 ∧ (V - p0) / 4 < c := by omega
  have h := Int.ediv_emod_unique (a := hi * 18446744073709551616 + lo) (b := c) (r := (V - p0) / 4) (q := q1 * 4294967296 + q0) hc
  have := h.2 ⟨by rw [Int.mul_comm]; omega, e5.1, e5.2⟩
  exact ⟨this.1.symm, this.2.symm⟩
set_option maxHeartbeats 2000000 in
theorem Div64_30 (hi lo c : Int) (w : World) (h0 : 536870912 ≤ c) (h1 : c < 1073741824) (i0 : 0 < hi) (i1 : hi < c) (l0 : 0 ≤ lo) (l1 : lo < 18446744073709551616) :
    Calls Tryz.prog 98 #[.int .u64 hi, .int .u64 lo, .int .u64 c] w fun e w' => e = .returned (.tuple #[.int .u64 ((hi * 18446744073709551616 + lo) / c), .int .u64 ((hi * 18446744073709551616 + lo) % c)]) ∧ w = w' := by
  obtain ⟨U, hU⟩ : ∃ U, U = hi * 17179869184 + lo / 1073741824 := ⟨_, rfl⟩
  obtain ⟨L, hL⟩ : ∃ L, L = lo % 1073741824 := ⟨_, rfl⟩
  obtain ⟨q1, hq1⟩ : ∃ q, q = U / (c * 4) := ⟨_, rfl⟩
  obtain ⟨p1, hp1⟩ : ∃ p, p = q1 * (c * 4) := ⟨_, rfl⟩
  obtain ⟨V, hV⟩ : ∃ V, V = (U - p1) * 4294967296 + L * 4 := ⟨_, rfl⟩
  obtain ⟨q0, hq0⟩ : ∃ q, q = V / (c * 4) := ⟨_, rfl⟩
  obtain ⟨p0, hp0⟩ : ∃ p, p = q0 * (c * 4) := ⟨_, rfl⟩
  have A := Div64_30_arith hi lo c U L q1 p1 V q0 p0 hU hL hq1 hp1 hV hq0 hp0 (by omega)
  rw [← A.1, ← A.2]
  clear A
  have n1 := Int.emod_nonneg U (show c * 4 ≠ 0 by omega)
  have n2 := Int.emod_lt_of_pos U (show 0 < c * 4 by omega)
  have n3 := Int.mul_ediv_add_emod U (c * 4)
  rw [← hq1, Int.mul_comm, ← hp1] at n3
  have u0 : 0 ≤ U := by omega
  have u1 : U < c * 4 * 4294967296 := by omega
  have L0 : 0 ≤ L := by omega
  have L1 : L < 1073741824 := by omega
  have r1 : 0 ≤ U - p1 := by omega
  have r2 : U - p1 < c * 4 := by omega
  clear n1 n2 n3
  have n4 := Int.emod_nonneg V (show c * 4 ≠ 0 by omega)
  have n5 := Int.emod_lt_of_pos V (show 0 < c * 4 by omega)
  have n6 := Int.mul_ediv_add_emod V (c * 4)
  rw [← hq0, Int.mul_comm, ← hp0] at n6
  have v0 : 0 ≤ V := by omega
  have v1 : V < c * 4 * 4294967296 := by omega
  have s1 : 0 ≤ V - p0 := by omega
  have s2 : V - p0 < c * 4 := by omega
  clear n4 n5 n6
  have q10 : 0 ≤ q1 := by rw [hq1]; exact Int.ediv_nonneg u0 (by omega)
  have q11 : q1 < 4294967296 := by rw [hq1]; exact Int.ediv_lt_of_lt_mul (by omega) (by rw [Int.mul_comm]; exact u1)
  have q00 : 0 ≤ q0 := by rw [hq0]; exact Int.ediv_nonneg v0 (by omega)
  have q01 : q0 < 4294967296 := by rw [hq0]; exact Int.ediv_lt_of_lt_mul (by omega) (by rw [Int.mul_comm]; exact v1)
  have p10 : 0 ≤ p1 := by rw [hp1]; exact Int.mul_nonneg q10 (by omega)
  have p11 : p1 ≤ U := by omega
  have p00 : 0 ≤ p0 := by rw [hp0]; exact Int.mul_nonneg q00 (by omega)
  have p01 : p0 ≤ V := by omega
  have t1 : (c == 0) = false := by simp; omega
  have t2 : decide (c ≤ hi) = false := by simp; omega
  have t3 : (hi == 0) = false := by simp; omega
  have w0 : c * 17179869184 / 4294967296 = c * 4 := by omega
  have w1 : bits .and .u64 (c * 17179869184) 4294967295 = 0 := by
    rw [show (4294967295 : Int) = 2 ^ 32 - 1 from rfl, bits_mask .u64 64 (by decide) wraps_u64 32 (by decide) (c * 17179869184) (by omega) (by omega), show (2 : Int) ^ 32 = 4294967296 from rfl]; omega
  have w2 : bits .or .u64 (hi * 17179869184) (lo / 1073741824) = U := by
    rw [hU]
    exact bits_join .u64 64 (by decide) wraps_u64 34 (hi * 17179869184) (lo / 1073741824) (by omega) (by simp only [show (2 : Int) ^ 34 = 17179869184 from rfl]; omega) (by omega) (by omega) (by omega) (by omega)
  have w3 : IntKind.u64.wrap (lo * 17179869184) = L * 17179869184 := by rw [IntKind.wrap_u64]; omega
  have w4 : L * 17179869184 / 4294967296 = L * 4 := by omega
  have w5 : bits .and .u64 (L * 17179869184) 4294967295 = 0 := by
    rw [show (4294967295 : Int) = 2 ^ 32 - 1 from rfl, bits_mask .u64 64 (by decide) wraps_u64 32 (by decide) (L * 17179869184) (by omega) (by omega), show (2 : Int) ^ 32 = 4294967296 from rfl]; omega
  have w6 : U.tdiv (c * 4) = q1 := by rw [Int.tdiv_eq_ediv_of_nonneg u0, hq1]
  have w7 : q1 * (c * 4) = p1 := hp1.symm
  have w8 : V.tdiv (c * 4) = q0 := by rw [Int.tdiv_eq_ediv_of_nonneg v0, hq0]
  have w9 : q0 * (c * 4) = p0 := hp0.symm
  have x1 : q1 * (c * 17179869184) = p1 * 4294967296 := by rw [hp1, Int.mul_assoc, Int.mul_assoc]; rfl
  have x0 : q0 * (c * 17179869184) = p0 * 4294967296 := by rw [hp0, Int.mul_assoc, Int.mul_assoc]; rfl
  have x2 : IntKind.u64.wrap (IntKind.u64.wrap (IntKind.u64.wrap (U * 4294967296) + L * 4) - IntKind.u64.wrap (p1 * 4294967296)) = V := by
    simp only [IntKind.wrap_u64]; omega
  have x3 : IntKind.u64.wrap (IntKind.u64.wrap (IntKind.u64.wrap (V * 4294967296)) - IntKind.u64.wrap (p0 * 4294967296)) / 17179869184 = (V - p0) / 4 := by
    simp only [IntKind.wrap_u64]; omega
  clear hU hL hq1 hp1 hV hq0 hp0
  go_enter Tryz.func98, Tryz.ntmps98
  go_wp2_with (go_at_call 111; refine (LZ30 _ _ (by omega) (by omega)).mono ?_; rintro e w' ⟨rfl, rfl⟩)
  refine wp_loop_rounds 1 ?_
  rw [rounds_succ]
  go_wp2
  refine wp_loop_rounds 1 ?_
  rw [rounds_succ]
  go_wp2
  go_ret2
  exact ⟨rfl, rfl⟩

theorem LZ10 (c : Int) (w : World) (h0 : 512 ≤ c) (h1 : c < 1024) :
    Calls Tryz.prog 111 #[.int .u64 c] w fun e w' => e = .returned (.int .i64 54) ∧ w = w' := by
  refine (Tryz.bits_LeadingZeros64 c w (by omega) (by omega)).mono ?_
  rintro e w' ⟨rfl, rfl⟩
  have hl : Lib.bitLen c.toNat = 10 := by
    rw [Lib.bitLen_shift 9 c.toNat (by omega) (by omega), show c.toNat / 2 ^ 9 = 1 from by omega]; rfl
  exact ⟨by rw [hl]; rfl, rfl⟩
theorem Div64_10_arith (hi lo c U L q1 p1 V q0 p0 : Int) (hU : U = hi * 18014398509481984 + lo / 1024) (hL : L = lo % 1024) (_hq1 : q1 = U / (c * 4194304)) (hp1 : p1 = q1 * (c * 4194304)) (hV : V = (U - p1) * 4294967296 + L * 4194304) (hq0 : q0 = V / (c * 4194304)) (hp0 : p0 = q0 * (c * 4194304)) (hc : 0 < c) :
    q1 * 4294967296 + q0 = (hi * 18446744073709551616 + lo) / c ∧ (V - p0) / 4194304 = (hi * 18446744073709551616 + lo) % c := by
  have e1 : (hi * 18446744073709551616 + lo) * 4194304 = (q1 * 4294967296 + q0) * (c * 4194304) + (V - p0) := by
    have : (q1 * 4294967296 + q0) * (c * 4194304) = p1 * 4294967296 + p0 := by rw [Int.add_mul, hp1, hp0, Int.mul_right_comm]
    rw [this]; omega
  have e2 : 0 ≤ V - p0 ∧ V - p0 < c * 4194304 := by
    have n4 := Int.emod_nonneg V (show c * 4194304 ≠ 0 by omega)
    have n5 := Int.emod_lt_of_pos V (show 0 < c * 4194304 by omega)
    have n6 := Int.mul_ediv_add_emod V (c * 4194304)
    rw [← hq0, Int.mul_comm, ← hp0] at n6
    omega
  have e3 : ((q1 * 4294967296 + q0) * (c * 4194304)) = ((q1 * 4294967296 + q0) * c) * 4194304 := by rw [Int.mul_assoc]
  rw [e3] at e1
  have e4 : (hi * 18446744073709551616 + lo) - (q1 * 4294967296 + q0) * c = (V - p0) / 4194304 := by omega
  have e5 : 0 ≤ (V - p0) / 4194304 ∧ (V - p0) / 4194304 < c := by omega
  have h := Int.ediv_emod_unique (a := hi * 18446744073709551616 + lo) (b := c) (r := (V - p0) / 4194304) (q := q1 * 4294967296 + q0) hc
  have := h.2 ⟨by rw [Int.mul_comm]; omega, e5.1, e5.2⟩
  exact ⟨this.1.symm, this.2.symm⟩
set_option maxHeartbeats 2000000 in
theorem Div64_10 (hi lo c : Int) (w : World) (h0 : 512 ≤ c) (h1 : c < 1024) (i0 : 0 < hi) (i1 : hi < c) (l0 : 0 ≤ lo) (l1 : lo < 18446744073709551616) :
    Calls Tryz.prog 98 #[.int .u64 hi, .int .u64 lo, .int .u64 c] w fun e w' => e = .returned (.tuple #[.int .u64 ((hi * 18446744073709551616 + lo) / c), .int .u64 ((hi * 18446744073709551616 + lo) % c)]) ∧ w = w' := by
  obtain ⟨U, hU⟩ : ∃ U, U = hi * 18014398509481984 + lo / 1024 := ⟨_, rfl⟩
  obtain ⟨L, hL⟩ : ∃ L, L = lo % 1024 := ⟨_, rfl⟩
  obtain ⟨q1, hq1⟩ : ∃ q, q = U / (c * 4194304) := ⟨_, rfl⟩
  obtain ⟨p1, hp1⟩ : ∃ p, p = q1 * (c * 4194304) := ⟨_, rfl⟩
  obtain ⟨V, hV⟩ : ∃ V, V = (U - p1) * 4294967296 + L * 4194304 := ⟨_, rfl⟩
  obtain ⟨q0, hq0⟩ : ∃ q, q = V / (c * 4194304) := ⟨_, rfl⟩
  obtain ⟨p0, hp0⟩ : ∃ p, p = q0 * (c * 4194304) := ⟨_, rfl⟩
  have A := Div64_10_arith hi lo c U L q1 p1 V q0 p0 hU hL hq1 hp1 hV hq0 hp0 (by omega)
  rw [← A.1, ← A.2]
  clear A
  have n1 := Int.emod_nonneg U (show c * 4194304 ≠ 0 by omega)
  have n2 := Int.emod_lt_of_pos U (show 0 < c * 4194304 by omega)
  have n3 := Int.mul_ediv_add_emod U (c * 4194304)
  rw [← hq1, Int.mul_comm, ← hp1] at n3
  have u0 : 0 ≤ U := by omega
  have u1 : U < c * 4194304 * 4294967296 := by omega
  have L0 : 0 ≤ L := by omega
  have L1 : L < 1024 := by omega
  have r1 : 0 ≤ U - p1 := by omega
  have r2 : U - p1 < c * 4194304 := by omega
  clear n1 n2 n3
  have n4 := Int.emod_nonneg V (show c * 4194304 ≠ 0 by omega)
  have n5 := Int.emod_lt_of_pos V (show 0 < c * 4194304 by omega)
  have n6 := Int.mul_ediv_add_emod V (c * 4194304)
  rw [← hq0, Int.mul_comm, ← hp0] at n6
  have v0 : 0 ≤ V := by omega
  have v1 : V < c * 4194304 * 4294967296 := by omega
  have s1 : 0 ≤ V - p0 := by omega
  have s2 : V - p0 < c * 4194304 := by omega
  clear n4 n5 n6
  have q10 : 0 ≤ q1 := by rw [hq1]; exact Int.ediv_nonneg u0 (by omega)
  have q11 : q1 < 4294967296 := by rw [hq1]; exact Int.ediv_lt_of_lt_mul (by omega) (by rw [Int.mul_comm]; exact u1)
  have q00 : 0 ≤ q0 := by rw [hq0]; exact Int.ediv_nonneg v0 (by omega)
  have q01 : q0 < 4294967296 := by rw [hq0]; exact Int.ediv_lt_of_lt_mul (by omega) (by rw [Int.mul_comm]; exact v1)
  have p10 : 0 ≤ p1 := by rw [hp1]; exact Int.mul_nonneg q10 (by omega)
  have p11 : p1 ≤ U := by omega
  have p00 : 0 ≤ p0 := by rw [hp0]; exact Int.mul_nonneg q00 (by omega)
  have p01 : p0 ≤ V := by omega
  have t1 : (c == 0) = false := by simp; omega
  have t2 : decide (c ≤ hi) = false := by simp; omega
  have t3 : (hi == 0) = false := by simp; omega
  have w0 : c * 18014398509481984 / 4294967296 = c * 4194304 := by omega
  have w1 : bits .and .u64 (c * 18014398509481984) 4294967295 = 0 := by
    rw [show (4294967295 : Int) = 2 ^ 32 - 1 from rfl, bits_mask .u64 64 (by decide) wraps_u64 32 (by decide) (c * 18014398509481984) (by omega) (by omega), show (2 : Int) ^ 32 = 4294967296 from rfl]; omega
  have w2 : bits .or .u64 (hi * 18014398509481984) (lo / 1024) = U := by
    rw [hU]
    exact bits_join .u64 64 (by decide) wraps_u64 54 (hi * 18014398509481984) (lo / 1024) (by omega) (by simp only [show (2 : Int) ^ 54 = 18014398509481984 from rfl]; omega) (by omega) (by omega) (by omega) (by omega)
  have w3 : IntKind.u64.wrap (lo * 18014398509481984) = L * 18014398509481984 := by rw [IntKind.wrap_u64]; omega
  have w4 : L * 18014398509481984 / 4294967296 = L * 4194304 := by omega
  have w5 : bits .and .u64 (L * 18014398509481984) 4294967295 = 0 := by
    rw [show (4294967295 : Int) = 2 ^ 32 - 1 from rfl, bits_mask .u64 64 (by decide) wraps_u64 32 (by decide) (L * 18014398509481984) (by omega) (by omega), show (2 : Int) ^ 32 = 4294967296 from rfl]; omega
  have w6 : U.tdiv (c * 4194304) = q1 := by rw [Int.tdiv_eq_ediv_of_nonneg u0, hq1]
  have w7 : q1 * (c * 4194304) = p1 := hp1.symm
  have w8 : V.tdiv (c * 4194304) = q0 := by rw [Int.tdiv_eq_ediv_of_nonneg v0, hq0]
  have w9 : q0 * (c * 4194304) = p0 := hp0.symm
  have x1 : q1 * (c * 18014398509481984) = p1 * 4294967296 := by rw [hp1, Int.mul_assoc, Int.mul_assoc]; rfl
  have x0 : q0 * (c * 18014398509481984) = p0 * 4294967296 := by rw [hp0, Int.mul_assoc, Int.mul_assoc]; rfl
  have x2 : IntKind.u64.wrap (IntKind.u64.wrap (IntKind.u64.wrap (U * 4294967296) + L * 4194304) - IntKind.u64.wrap (p1 * 4294967296)) = V := by
    simp only [IntKind.wrap_u64]; omega
  have x3 : IntKind.u64.wrap (IntKind.u64.wrap (IntKind.u64.wrap (V * 4294967296)) - IntKind.u64.wrap (p0 * 4294967296)) / 18014398509481984 = (V - p0) / 4194304 := by
    simp only [IntKind.wrap_u64]; omega
  clear hU hL hq1 hp1 hV hq0 hp0
  go_enter Tryz.func98, Tryz.ntmps98
  go_wp2_with (go_at_call 111; refine (LZ10 _ _ (by omega) (by omega)).mono ?_; rintro e w' ⟨rfl, rfl⟩)
  refine wp_loop_rounds 1 ?_
  rw [rounds_succ]
  go_wp2
  refine wp_loop_rounds 1 ?_
  rw [rounds_succ]
  go_wp2
  go_ret2
  exact ⟨rfl, rfl⟩

theorem Mul64 (a b : Int) (w : World) (a0 : 0 ≤ a) (a1 : a < 18446744073709551616) (b0 : 0 ≤ b) (b1 : b < 18446744073709551616) :
    Calls Tryz.prog 96 #[.int .u64 a, .int .u64 b] w fun e w' => e = .returned (.tuple #[.int .u64 (a * b / 18446744073709551616), .int .u64 (a * b % 18446744073709551616)]) ∧ w = w' := by
  obtain ⟨x, rfl⟩ := Int.eq_ofNat_of_zero_le a0
  obtain ⟨y, rfl⟩ := Int.eq_ofNat_of_zero_le b0
  refine (Tryz.bits_Mul64 x y (by omega) (by omega) w).mono ?_
  rintro e w' ⟨rfl, rfl⟩
  exact ⟨rfl, rfl⟩
end Go.Proofs.YtnafhblioabkgaaGreat
