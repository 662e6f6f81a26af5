/- The reference's layers 11 and 15. -/
import Derived.Test.YtnafhblioabkgaaGreatRNum
import Derived.Test.YtnafhblioabkgaaGreatOnly
namespace Go.Proofs.YtnafhblioabkgaaGreat
open Go.RowKit

theorem ratio_down (d p : Int) (w : World) (d0 : 0 ≤ d) (d1 : d ≤ 576460752303423488) (p0 : 0 ≤ p) (p1 : p ≤ 1000000) :
    Calls Tryz.prog 91 #[.int .i64 d, .int .i64 1000000000, .int .i64 (1000000000 + p), .bool false] w fun e w' => e = .returned (.int .i64 (elLo d p)) ∧ w = w' := by
  have hq0 : 0 ≤ d / (1000000000 + p) := Int.ediv_nonneg d0 (by omega)
  have hq1 : d / (1000000000 + p) ≤ 576460753 := by
    have := Int.ediv_le_of_le_mul (a := d) (b := 576460753) (c := 1000000000 + p) (by omega) (by omega)
    exact this
  have hm := Int.mul_ediv_add_emod d (1000000000 + p)
  have hm0 := Int.emod_nonneg d (show 1000000000 + p ≠ 0 by omega)
  have hm1 := Int.emod_lt_of_pos d (show 0 < 1000000000 + p by omega)
  have e1 : d.tdiv (1000000000 + p) = d / (1000000000 + p) := Int.tdiv_eq_ediv_of_nonneg d0
  have hr := ratio_arith d 1000000000 (1000000000 + p) (by omega)
  have hle := elLo_le d0 p0
  have hge := elLo_nonneg d0 p0
  have t3 : ((1000000000 + p) == 0) = false := by simp; omega
  have t4 : ¬ 1000000000 + p = 0 := by omega
  unfold elLo at *
  rw [Int.mul_comm] at hm
  generalize hc : 1000000000 + p = c at *
  generalize d * 1000000000 / c = res at *
  generalize d / c = q at *
  have R := Lib.hid fun W => Rounded_down ((d - q * c) * 1000000000) c W (by omega) (by omega) (by omega)
  have r0 : 0 ≤ (d - q * c) * 1000000000 / c := Int.ediv_nonneg (by omega) (by omega)
  generalize (d - q * c) * 1000000000 / c = rr at *
  have w0 : IntKind.i64.wrap q = q := IntWalk.i64_in _ (by omega)
  have w1 : IntKind.i64.wrap (q * 1000000000) = q * 1000000000 := IntWalk.i64_in _ (by omega)
  have w2 : IntKind.i64.wrap (q * c) = q * c := IntWalk.i64_in _ (by omega)
  have w3 : IntKind.i64.wrap (d - q * c) = d - q * c := IntWalk.i64_in _ (by omega)
  have w4 : IntKind.i64.wrap ((d - q * c) * 1000000000) = (d - q * c) * 1000000000 := IntWalk.i64_in _ (by omega)
  have w5 : IntKind.i64.wrap (q * 1000000000 + rr) = res := by rw [hr]; exact IntWalk.i64_in _ (by omega)
  clear hm hr hq0 hq1 hm0 hm1 hle hge r0
  go_enter Tryz.func91, Tryz.ntmps91
  go_wp2_with (go_at_call 108; refine (R.out _).mono ?_; rintro e w' ⟨rfl, rfl⟩)
  go_ret
  exact ⟨rfl, rfl⟩
theorem ratio_up (d p : Int) (w : World) (d0 : 0 ≤ d) (d1 : d ≤ 576460752303423488) (p0 : 0 ≤ p) (p1 : p ≤ 1000000) :
    Calls Tryz.prog 91 #[.int .i64 d, .int .i64 1000000000, .int .i64 (1000000000 - p), .bool true] w fun e w' => e = .returned (.int .i64 (elHi d p)) ∧ w = w' := by
  have hq0 : 0 ≤ d / (1000000000 - p) := Int.ediv_nonneg d0 (by omega)
  have hq1 : d / (1000000000 - p) ≤ 577037791 := by
    have := Int.ediv_le_of_le_mul (a := d) (b := 577037791) (c := 1000000000 - p) (by omega) (by omega)
    exact this
  have hm := Int.mul_ediv_add_emod d (1000000000 - p)
  have hm0 := Int.emod_nonneg d (show 1000000000 - p ≠ 0 by omega)
  have hm1 := Int.emod_lt_of_pos d (show 0 < 1000000000 - p by omega)
  have e1 : d.tdiv (1000000000 - p) = d / (1000000000 - p) := Int.tdiv_eq_ediv_of_nonneg d0
  have hr := ratio_arith_up d 1000000000 (1000000000 - p) (by omega)
  have hle := elHi_le d0 p0 p1
  have hge := elHi_ge d0 p0 p1
  have t3 : ((1000000000 - p) == 0) = false := by simp; omega
  have t4 : ¬ 1000000000 - p = 0 := by omega
  unfold elHi at *
  rw [Int.mul_comm] at hm
  generalize hc : 1000000000 - p = c at *
  generalize cdiv (d * 1000000000) c = res at *
  generalize d / c = q at *
  have R := Lib.hid fun W => Rounded_up ((d - q * c) * 1000000000) c W (by omega) (by omega) (by omega)
  generalize cdiv ((d - q * c) * 1000000000) c = rr at *
  have w0 : IntKind.i64.wrap q = q := IntWalk.i64_in _ (by omega)
  have w1 : IntKind.i64.wrap (q * 1000000000) = q * 1000000000 := IntWalk.i64_in _ (by omega)
  have w2 : IntKind.i64.wrap (q * c) = q * c := IntWalk.i64_in _ (by omega)
  have w3 : IntKind.i64.wrap (d - q * c) = d - q * c := IntWalk.i64_in _ (by omega)
  have w4 : IntKind.i64.wrap ((d - q * c) * 1000000000) = (d - q * c) * 1000000000 := IntWalk.i64_in _ (by omega)
  have w5 : IntKind.i64.wrap (q * 1000000000 + rr) = res := by rw [hr]; exact IntWalk.i64_in _ (by omega)
  clear hm hr hq0 hq1 hm0 hm1 hle hge
  go_enter Tryz.func91, Tryz.ntmps91
  go_wp2_with (go_at_call 108; refine (R.out _).mono ?_; rintro e w' ⟨rfl, rfl⟩)
  go_ret
  exact ⟨rfl, rfl⟩

theorem rSpan_Valid (lo hi : Int) (w : World) : Calls Tryz.prog 51 #[.agg #[.int .i64 lo, .int .i64 hi]] w fun e w' => e = .returned (.bool (okS lo hi)) ∧ Below w.heap.size w w' := by
  unfold okS
  cases h1 : okT lo <;> cases h2 : okT hi
  all_goals
    go_enter Tryz.func51, Tryz.ntmps51
    go_wp2_with (go_at_call 48; refine (rValid _ _).mono ?_; rintro e w' ⟨rfl, rfl⟩)
    go_ret
    exact ⟨ret_bool (by simp), (Below.refl _ _).alloc (Nat.le_refl _) _⟩
theorem rS_valid (lo hi : Int) (W : World) (h : okS lo hi = true) : Calls Tryz.prog 51 #[.agg #[.int .i64 lo, .int .i64 hi]] W fun e w' => e = .returned (.bool true) ∧ Below W.heap.size W w' := by
  have := rSpan_Valid lo hi W
  rwa [h] at this
theorem rWidth_ok (lo hi : Int) (w : World) (h : okS lo hi = true) : Calls Tryz.prog 75 #[.agg #[.int .i64 lo, .int .i64 hi]] w fun e w' => e = .returned (.int .i64 (hi - lo)) ∧ Below w.heap.size w w' := by
  have s := okS_iff.1 h
  have V := Lib.hid fun W => rS_valid lo hi W h
  clear h
  go_enter Tryz.func75, Tryz.ntmps75
  go_wp2_with fail
  refine (V.out _).mono ?_
  rintro e w1 ⟨rfl, hb1⟩
  obtain ⟨a0, a1, _, _⟩ := blk2 ((Blk.new _ _ _).keep hb1)
  have hB1 := Lib.hid (below_then (below_alloc (Below.refl _ _) _) hb1)
  clear hb1
  go_wp2
  go_ret
  exact ⟨rfl, hB1.out⟩

set_option maxHeartbeats 1000000 in
theorem rMeet_ok (lo hi lo' hi' : Int) (w : World) (ho : okS lo hi = true) (ho' : okS lo' hi' = true) :
    Calls Tryz.prog 71 #[.agg #[.int .i64 lo, .int .i64 hi], .agg #[.int .i64 lo', .int .i64 hi']] w fun e w' => e = .returned (if max lo lo' ≤ min hi hi' then .tuple #[.agg #[.int .i64 (max lo lo'), .int .i64 (min hi hi')], .bool true] else .tuple #[.agg #[.int .i64 0, .int .i64 0], .bool false]) ∧ Below w.heap.size w w' := by
  have V1 := Lib.hid fun W => rS_valid lo hi W ho
  have V2 := Lib.hid fun W => rS_valid lo' hi' W ho'
  clear ho ho'
  have em : (if lo < lo' then lo' else lo) = max lo lo' := by split <;> omega
  have en : (if hi' < hi then hi' else hi) = min hi hi' := by split <;> omega
  by_cases hm : max lo lo' ≤ min hi hi'
  · rw [if_pos hm]
    have t1 : decide (min hi hi' < max lo lo') = false := by simp; omega
    go_enter Tryz.func71, Tryz.ntmps71
    go_wp2_with fail
    refine (V1.out _).mono ?_
    rintro e w1 ⟨rfl, hb1⟩
    have G0 := Lib.hid (((Blk.new _ _ _).alloc _).alloc _ |>.keep hb1)
    have G1 := Lib.hid ((Blk.new1 _ _ _ _).alloc _ |>.keep hb1)
    have G2 := Lib.hid ((Blk.new2 _ _ _ _ _).keep hb1)
    have hB1 := Lib.hid (below_then (below_alloc (below_alloc (below_alloc (Below.refl _ _) _) _) _) hb1)
    clear hb1
    obtain ⟨b0, b1, _, _⟩ := blk2 G1.out
    go_wp2_with fail
    refine (V2.out _).mono ?_
    rintro e w2 ⟨rfl, hb2⟩
    have hB2 := Lib.hid (below_then hB1.out hb2)
    obtain ⟨a0, a1, _, _⟩ := blk2 (G0.out.keep hb2)
    clear b0 b1
    obtain ⟨b0, b1, _, _⟩ := blk2 (G1.out.keep hb2)
    obtain ⟨c0, c1, f0, f1⟩ := blk2 (G2.out.keep hb2)
    have hz0 : w.heap.size < w2.heap.size := (G0.out.keep hb2).lt
    have hz1 : w.heap.size + 1 < w2.heap.size := (G1.out.keep hb2).lt
    have hz2 : w.heap.size + 2 < w2.heap.size := (G2.out.keep hb2).lt
    clear hb2 hB1 G0 G1 G2
    go_wp2
    exact bodyPost_ret (v := .tuple #[.agg #[.int .i64 (max lo lo'), .int .i64 (min hi hi')], .bool true]) (by rw [results_cell_tmp Tryz.results71]; go_simp) rfl ⟨rfl, by repeat (with_reducible first | exact hB2.out | refine below_alloc ?_ _ | refine below_drew ?_ | refine below_drewN ?_ _ | refine below_set ?_ (by omega) _)⟩
  · rw [if_neg hm]
    have t1 : decide (min hi hi' < max lo lo') = true := by simp; omega
    go_enter Tryz.func71, Tryz.ntmps71
    go_wp2_with fail
    refine (V1.out _).mono ?_
    rintro e w1 ⟨rfl, hb1⟩
    have G0 := Lib.hid (((Blk.new _ _ _).alloc _).alloc _ |>.keep hb1)
    have G1 := Lib.hid ((Blk.new1 _ _ _ _).alloc _ |>.keep hb1)
    have G2 := Lib.hid ((Blk.new2 _ _ _ _ _).keep hb1)
    have hB1 := Lib.hid (below_then (below_alloc (below_alloc (below_alloc (Below.refl _ _) _) _) _) hb1)
    clear hb1
    obtain ⟨b0, b1, _, _⟩ := blk2 G1.out
    go_wp2_with fail
    refine (V2.out _).mono ?_
    rintro e w2 ⟨rfl, hb2⟩
    have hB2 := Lib.hid (below_then hB1.out hb2)
    obtain ⟨a0, a1, _, _⟩ := blk2 (G0.out.keep hb2)
    clear b0 b1
    obtain ⟨b0, b1, _, _⟩ := blk2 (G1.out.keep hb2)
    obtain ⟨c0, c1, f0, f1⟩ := blk2 (G2.out.keep hb2)
    have hz0 : w.heap.size < w2.heap.size := (G0.out.keep hb2).lt
    have hz1 : w.heap.size + 1 < w2.heap.size := (G1.out.keep hb2).lt
    have hz2 : w.heap.size + 2 < w2.heap.size := (G2.out.keep hb2).lt
    clear hb2 hB1 G0 G1 G2
    go_wp2
    exact bodyPost_ret (v := .tuple #[.agg #[.int .i64 0, .int .i64 0], .bool false]) (by rw [results_cell_tmp Tryz.results71]; go_simp) rfl ⟨rfl, by repeat (with_reducible first | exact hB2.out | refine below_alloc ?_ _ | refine below_drew ?_ | refine below_drewN ?_ _ | refine below_set ?_ (by omega) _)⟩

theorem rmade_ok (lo hi : Int) (w : World) (h : okS lo hi = true) : Calls Tryz.prog 94 #[.int .i64 lo, .int .i64 hi] w fun e w' => e = .returned (.tuple #[.agg #[.int .i64 lo, .int .i64 hi], .int .i64 0]) ∧ Below w.heap.size w w' := by
  have V := Lib.hid fun W => rS_valid lo hi W h
  clear h
  go_enter Tryz.func94, Tryz.ntmps94
  go_wp2_with fail
  refine (V.out _).mono ?_
  rintro e w1 ⟨rfl, hb1⟩
  have hB1 := Lib.hid (below_then (below_alloc (below_alloc (Below.refl _ _) _) _) hb1)
  obtain ⟨c0, c1, f0, f1⟩ := blk2 (((Blk.new _ _ _).alloc _).keep hb1)
  obtain ⟨a0, a1, _, _⟩ := blk2 ((Blk.new1 _ _ _ _).keep hb1)
  have hz1 : w.heap.size + 1 < w1.heap.size := by have := hb1.size; simp at this; omega
  have hz0 : w.heap.size < w1.heap.size := by omega
  clear hb1
  go_wp2
  exact bodyPost_ret (v := .tuple #[.agg #[.int .i64 lo, .int .i64 hi], .int .i64 0]) (by rw [results_cell_tmp Tryz.results94]; go_simp) rfl ⟨rfl, by repeat (with_reducible first | exact hB1.out | refine below_alloc ?_ _ | refine below_drew ?_ | refine below_drewN ?_ _ | refine below_set ?_ (by omega) _)⟩
set_option maxHeartbeats 1000000 in
theorem rAdd_ok (lo hi lo' hi' : Int) (w : World) (ho : okS lo hi = true) (ho' : okS lo' hi' = true) (hs : okS (lo + lo') (hi + hi') = true) :
    Calls Tryz.prog 74 #[.agg #[.int .i64 lo, .int .i64 hi], .agg #[.int .i64 lo', .int .i64 hi']] w fun e w' => e = .returned (.tuple #[.agg #[.int .i64 (lo + lo'), .int .i64 (hi + hi')], .int .i64 0]) ∧ Below w.heap.size w w' := by
  have V1 := Lib.hid fun W => rS_valid lo hi W ho
  have V2 := Lib.hid fun W => rS_valid lo' hi' W ho'
  have M := Lib.hid fun W => rmade_ok (lo + lo') (hi + hi') W hs
  have ss := okS_iff.1 hs
  have w1 : IntKind.i64.wrap (lo + lo') = lo + lo' := IntWalk.i64_in _ (by omega)
  have w2 : IntKind.i64.wrap (hi + hi') = hi + hi' := IntWalk.i64_in _ (by omega)
  clear ho ho' hs ss
  go_enter Tryz.func74, Tryz.ntmps74
  go_wp2_with fail
  refine (V1.out _).mono ?_
  rintro e w1 ⟨rfl, hb1⟩
  have G0 := Lib.hid (((Blk.new _ _ _).alloc _).alloc _ |>.keep hb1)
  have G1 := Lib.hid ((Blk.new1 _ _ _ _).alloc _ |>.keep hb1)
  have G2 := Lib.hid ((Blk.new2 _ _ _ _ _).keep hb1)
  have hB1 := Lib.hid (below_then (below_alloc (below_alloc (below_alloc (Below.refl _ _) _) _) _) hb1)
  clear hb1
  obtain ⟨b0, b1, _, _⟩ := blk2 G1.out
  go_wp2_with fail
  refine (V2.out _).mono ?_
  rintro e w2 ⟨rfl, hb2⟩
  have hB2 := Lib.hid (below_then hB1.out hb2)
  obtain ⟨a0, a1, _, _⟩ := blk2 (G0.out.keep hb2)
  clear b0 b1
  obtain ⟨b0, b1, _, _⟩ := blk2 (G1.out.keep hb2)
  have K2 := Lib.hid (G2.out.keep hb2)
  clear hb2 hB1 G0 G1 G2
  go_wp2_with fail
  refine (M.out _).mono ?_
  rintro e w3 ⟨rfl, hb3⟩
  have hB3 := Lib.hid (below_then hB2.out hb3)
  obtain ⟨c0, c1, f0, f1⟩ := blk2 (K2.out.keep hb3)
  have hz2 : w.heap.size + 2 < w3.heap.size := (K2.out.keep hb3).lt
  clear hb3 a0 a1 b0 b1
  go_wp2
  exact bodyPost_ret (v := .tuple #[.agg #[.int .i64 (lo + lo'), .int .i64 (hi + hi')], .int .i64 0]) (by rw [results_cell_tmp Tryz.results74]; go_simp) rfl ⟨rfl, by repeat (with_reducible first | exact hB3.out | refine below_alloc ?_ _ | refine below_drew ?_ | refine below_drewN ?_ _ | refine below_set ?_ (by omega) _)⟩
theorem rin_ok (d p : Int) (w : World) (d0 : 0 ≤ d) (d1 : d ≤ 576460752303423488) (p0 : 0 ≤ p) (p1 : p ≤ 1000000) : Calls Tryz.prog 90 #[.int .i64 d, .int .i64 p] w fun e w' => e = .returned (.bool true) ∧ w = w' := by
  have t1 : decide (0 ≤ d) = true := by simp; omega
  have t2 : decide (d ≤ 576460752303423488) = true := by simp; omega
  have t3 : decide (0 ≤ p) = true := by simp; omega
  have t4 : decide (p ≤ 1000000) = true := by simp; omega
  go_enter Tryz.func90, Tryz.ntmps90
  go_wp2
  go_ret
  exact ⟨rfl, rfl⟩
theorem rElapsed_ok (d p : Int) (w : World) (d0 : 0 ≤ d) (d1 : d ≤ 576460752303423488) (p0 : 0 ≤ p) (p1 : p ≤ 1000000) :
    Calls Tryz.prog 70 #[.int .i64 d, .int .i64 p] w fun e w' => e = .returned (.tuple #[.agg #[.int .i64 (elLo d p), .int .i64 (elHi d p)], .int .i64 0]) ∧ Below w.heap.size w w' := by
  have I := Lib.hid fun W => rin_ok d p W d0 d1 p0 p1
  have L := Lib.hid fun W => ratio_down d p W d0 d1 p0 p1
  have U := Lib.hid fun W => ratio_up d p W d0 d1 p0 p1
  have w1 : IntKind.i64.wrap (1000000000 - p) = 1000000000 - p := IntWalk.i64_in _ (by omega)
  have w2 : IntKind.i64.wrap (1000000000 + p) = 1000000000 + p := IntWalk.i64_in _ (by omega)
  generalize elLo d p = lo at *
  generalize elHi d p = hi at *
  go_enter Tryz.func70, Tryz.ntmps70
  go_wp2_with fail
  refine (I.out _).mono ?_
  rintro e w' ⟨rfl, rfl⟩
  go_wp2_with fail
  refine (L.out _).mono ?_
  rintro e w' ⟨rfl, rfl⟩
  go_wp2_with fail
  refine (U.out _).mono ?_
  rintro e w' ⟨rfl, rfl⟩
  go_wp2
  exact bodyPost_ret (v := .tuple #[.agg #[.int .i64 lo, .int .i64 hi], .int .i64 0]) (by simp [results, Tryz.results70, go_sem]) rfl ⟨rfl, by repeat (first | exact Below.refl _ _ | refine below_alloc ?_ _ | refine below_set ?_ (by simp) _)⟩
end Go.Proofs.YtnafhblioabkgaaGreat
