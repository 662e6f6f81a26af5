/- The reference's layer 37, for what is known and in its ranges. -/
import Derived.Test.YtnafhblioabkgaaGreatRSample
import Derived.RegionTactic
import Derived.BigRegion
import Derived.ChangeAlike
namespace Go.Proofs.YtnafhblioabkgaaGreat
open Go.RowKit

theorem rcounter_yes (n : Int) (w : World) (h0 : 0 ≤ n) (h1 : n ≤ 1152921504606846976) : Calls Tryz.prog 73 #[.int .i64 n] w fun e w' => e = .returned (.bool true) ∧ w = w' := by
  go_enter Tryz.func73, Tryz.ntmps73
  go_wp2
  go_ret
  exact ⟨ret_bool (by first | (simp; done) | (simp; omega)), rfl⟩

theorem rKnown_Check (k : Kn) (w : World) (hk : k.good) :
    Calls Tryz.prog 47 #[.agg #[.int .i64 k.a, .int .i64 k.lo, .int .i64 k.hi, .int .i64 k.ppb, .int .i64 k.learnt, .int .i64 k.refused]] w fun e w' => e = .returned (.int .i64 0) ∧ Below w.heap.size w w' := by
  obtain ⟨a, lo, hi, ppb, learnt, refused⟩ := k
  obtain ⟨hs, ha, p0, p1, l0, l1, r0, r1⟩ := hk
  dsimp only at *
  have V := Lib.hid fun W => rSpan_Valid lo hi W
  rw [hs] at V
  have T := Lib.hid fun W => rValid a W
  rw [ha] at T
  have t1 : decide (ppb < 0) = false := by simp; omega
  have t2 : decide (1000000 < ppb) = false := by simp; omega
  have H0 := Lib.hid (Blk.new w 64 #[.int .i64 a, .int .i64 lo, .int .i64 hi, .int .i64 ppb, .int .i64 learnt, .int .i64 refused])
  clear hs ha
  go_enter Tryz.func47, Tryz.ntmps47
  go_wp2_with fail
  refine (V.out _).mono ?_
  rintro e w1 ⟨rfl, hb1⟩
  obtain ⟨k0, k1, k2, k3, k4, k5⟩ := blk6 (H0.out.keep hb1)
  have hB1 := Lib.hid (below_then (below_alloc (Below.refl _ _) _) hb1)
  clear hb1
  go_wp2_with (first | (go_at_call 48; refine (T.out _).mono ?_; rintro e w' ⟨rfl, rfl⟩) | (go_at_call 73; refine (rcounter_yes _ _ (by omega) (by omega)).mono ?_; rintro e w' ⟨rfl, rfl⟩))
  go_ret
  exact ⟨rfl, hB1.out⟩

set_option maxHeartbeats 1000000 in
theorem rBegin_ok (a lo hi ppb : Int) (w : World) (hs : okS lo hi = true) (ha : okT a = true) (p0 : 0 ≤ ppb) (p1 : ppb ≤ 1000000) :
    Calls Tryz.prog 44 #[.int .i64 a, .agg #[.int .i64 lo, .int .i64 hi], .int .i64 ppb] w fun e w' => e = .returned (.tuple #[.agg #[.int .i64 a, .int .i64 lo, .int .i64 hi, .int .i64 ppb, .int .i64 0, .int .i64 0], .int .i64 0]) ∧ Below w.heap.size w w' := by
  have C := Lib.hid fun W => rKnown_Check ⟨a, lo, hi, ppb, 0, 0⟩ W ⟨hs, ha, p0, p1, Int.le_refl _, by show (0 : Int) ≤ _; omega, Int.le_refl _, by show (0 : Int) ≤ _; omega⟩
  clear hs ha
  go_enter Tryz.func44, Tryz.ntmps44
  go_wp2_with fail
  refine (C.out _).mono ?_
  rintro e w1 ⟨rfl, hb1⟩
  have g1 := ((Blk.new1 _ _ _ _).alloc _).keep hb1
  have g2 := (Blk.new2 _ _ _ _ _).keep hb1
  have hB1 := Lib.hid (below_then (below_alloc (below_alloc (below_alloc (Below.refl _ _) _) _) _) hb1)
  obtain ⟨k0, k1, k2, k3, k4, k5⟩ := blk6 g1
  obtain ⟨f0, f1, f2, f3, f4, f5⟩ := frz6 g1
  obtain ⟨q0, q1, q2, q3, q4, q5⟩ := blk6 g2
  clear hb1 g1 g2
  go_wp2
  exact bodyPost_ret (v := .tuple #[.agg #[.int .i64 a, .int .i64 lo, .int .i64 hi, .int .i64 ppb, .int .i64 0, .int .i64 0], .int .i64 0]) (by rw [results_cell_tmp Tryz.results44]; go_simp) rfl ⟨rfl, by repeat (with_reducible first | exact hB1.out | refine below_alloc ?_ _ | refine below_set ?_ (by omega) _)⟩

set_option maxHeartbeats 1000000 in
theorem rNow_ok (k : Kn) (t : Int) (w : World) (hk : k.goodAt t) :
    Calls Tryz.prog 25 #[.agg #[.int .i64 k.a, .int .i64 k.lo, .int .i64 k.hi, .int .i64 k.ppb, .int .i64 k.learnt, .int .i64 k.refused], .int .i64 t] w fun e w' => e = .returned (.tuple #[.agg #[.int .i64 (k.nowLo t), .int .i64 (k.nowHi t)], .int .i64 0]) ∧ Below w.heap.size w w' := by
  have C := Lib.hid fun W => rKnown_Check k W hk.g
  have T := Lib.hid fun W => rValid t W
  rw [hk.v] at T
  have o := hk.o
  have d1 := hk.d
  have a0 := okT_iff.1 hk.g.a
  have b0 := okT_iff.1 hk.v
  have P := Lib.hid fun W => rProject_ok k.lo k.hi (t - k.a) k.ppb W hk.g.s (by omega) d1 hk.g.p0 hk.g.p1 hk.h
  unfold Kn.nowLo Kn.nowHi
  obtain ⟨a, lo, hi, ppb, learnt, refused⟩ := k
  dsimp only at *
  generalize lo + elLo (t - a) ppb = l at *
  generalize hi + elHi (t - a) ppb = u at *
  clear hk
  have t1 : decide (t < a) = false := by simp; omega
  go_enter Tryz.func25, Tryz.ntmps25
  go_wp2_with fail
  refine (C.out _).mono ?_
  rintro e w1 ⟨rfl, hb1⟩
  have g0 := ((Blk.new _ _ _).alloc _).keep hb1
  have G1 := Lib.hid ((Blk.new1 _ _ _ _).keep hb1)
  have hB1 := Lib.hid (below_then (below_alloc (below_alloc (Below.refl _ _) _) _) hb1)
  obtain ⟨k0, k1, k2, k3, k4, k5⟩ := blk6 g0
  clear hb1 g0
  go_wp2_with (go_at_call 48; refine (T.out _).mono ?_; rintro e w' ⟨rfl, rfl⟩)
  refine (P.out _).mono ?_
  rintro e w2 ⟨rfl, hb2⟩
  have hB2 := Lib.hid (below_then hB1.out hb2)
  obtain ⟨r0, r1, f0, f1⟩ := blk2 (G1.out.keep hb2)
  clear hb2 hB1 k0 k1 k2 k3 k4 k5
  go_wp2
  exact bodyPost_ret (v := .tuple #[.agg #[.int .i64 l, .int .i64 u], .int .i64 0]) (by rw [results_cell_tmp Tryz.results25]; go_simp) rfl ⟨rfl, by repeat (with_reducible first | exact hB2.out | refine below_alloc ?_ _ | refine below_set ?_ (by omega) _)⟩

theorem rMeet_yes (lo hi lo' hi' : Int) (w : World) (ho : okS lo hi = true) (ho' : okS lo' hi' = true) (hm : max lo lo' ≤ min hi hi') :
    Calls Tryz.prog 71 #[.agg #[.int .i64 lo, .int .i64 hi], .agg #[.int .i64 lo', .int .i64 hi']] w fun e w' => e = .returned (.tuple #[.agg #[.int .i64 (max lo lo'), .int .i64 (min hi hi')], .bool true]) ∧ Below w.heap.size w w' := by
  have := rMeet_ok lo hi lo' hi' w ho ho'
  rwa [if_pos hm] at this
theorem rMeet_no (lo hi lo' hi' : Int) (w : World) (ho : okS lo hi = true) (ho' : okS lo' hi' = true) (hm : ¬ max lo lo' ≤ min hi hi') :
    Calls Tryz.prog 71 #[.agg #[.int .i64 lo, .int .i64 hi], .agg #[.int .i64 lo', .int .i64 hi']] w fun e w' => e = .returned (.tuple #[.agg #[.int .i64 0, .int .i64 0], .bool false]) ∧ Below w.heap.size w w' := by
  have := rMeet_ok lo hi lo' hi' w ho ho'
  rwa [if_neg hm] at this

set_option maxHeartbeats 2000000 in
theorem rLearn_no (k : Kn) (t lo hi : Int) (w : World) (hk : k.goodAt t) (hs : okS lo hi = true) (hm : ¬ max (k.nowLo t) lo ≤ min (k.nowHi t) hi) :
    Calls Tryz.prog 45 #[.agg #[.int .i64 k.a, .int .i64 k.lo, .int .i64 k.hi, .int .i64 k.ppb, .int .i64 k.learnt, .int .i64 k.refused], .int .i64 t, .agg #[.int .i64 lo, .int .i64 hi]] w fun e w' =>
      e = .returned (.tuple #[.agg #[.int .i64 k.a, .int .i64 k.lo, .int .i64 k.hi, .int .i64 k.ppb, .int .i64 k.learnt, .int .i64 (min (k.refused + 1) 1152921504606846976)], .bool false, .int .i64 0]) ∧ Below w.heap.size w w' := by
  have N := Lib.hid fun W => rNow_ok k t W hk
  have V := Lib.hid fun W => rS_valid lo hi W hs
  have M := Lib.hid fun W => rMeet_no (k.nowLo t) (k.nowHi t) lo hi W hk.span hs hm
  have r0 := hk.g.r0
  have r1 := hk.g.r1
  clear hm hs hk
  generalize k.nowLo t = nl at *
  generalize k.nowHi t = nh at *
  obtain ⟨a, klo, khi, ppb, learnt, refused⟩ := k
  dsimp only at *
  go_enter Tryz.func45, Tryz.ntmps45
  go_wp2_with fail
  refine (N.out _).mono ?_
  rintro e w1 ⟨rfl, hb1⟩
  have G0 := Lib.hid (((Blk.new _ _ _).alloc _).alloc _ |>.keep hb1)
  have G1 := Lib.hid ((Blk.new1 _ _ _ _).alloc _ |>.keep hb1)
  have G2 := Lib.hid ((Blk.new2 _ _ _ _ _).keep hb1)
  have hB1 := Lib.hid (below_then (below_alloc (below_alloc (below_alloc (Below.refl _ _) _) _) _) hb1)
  have hz1 : w.heap.size + 2 < w1.heap.size := by have := hb1.size; simp at this; omega
  have hz11 : w.heap.size + 1 < w1.heap.size := by omega
  have hz10 : w.heap.size < w1.heap.size := by omega
  clear hb1
  obtain ⟨a0, a1, _, _⟩ := blk2 G1.out
  go_wp2_with fail
  refine (V.out _).mono ?_
  rintro e w2 ⟨rfl, hb2⟩
  have hB2 := Lib.hid (below_then (below_alloc hB1.out _) hb2)
  have K0 := Lib.hid ((G0.out.alloc _).keep hb2)
  have K1 := Lib.hid ((G1.out.alloc _).keep hb2)
  have K2 := Lib.hid ((G2.out.alloc _).keep hb2)
  have K3 := Lib.hid ((Blk.new w1 _ _).keep hb2)
  clear hb2 hB1 a0 a1 G0 G1 G2
  obtain ⟨b0, b1, _, _⟩ := blk2 K3.out
  obtain ⟨c0, c1, _, _⟩ := blk2 K1.out
  go_wp2_with fail
  refine (M.out _).mono ?_
  rintro e w3 ⟨rfl, hb3⟩
  have hB3 := Lib.hid (below_then hB2.out hb3)
  obtain ⟨d0, d1, d2, d3, d4, d5⟩ := blk6 (K0.out.keep hb3)
  obtain ⟨f0, f1, f2, f3, f4, f5⟩ := frz6 (K0.out.keep hb3)
  obtain ⟨p0, p1, p2, p3, p4, p5⟩ := blk6 (K2.out.keep hb3)
  obtain ⟨q0, q1, q2, q3, q4, q5⟩ := frz6 (K2.out.keep hb3)
  have hz3 : w.heap.size + 2 < w3.heap.size := by have := hB3.out.size; have := K2.out.lt; have := hb3.size; omega
  have hz31 : w.heap.size + 1 < w3.heap.size := by omega
  have hz30 : w.heap.size < w3.heap.size := by omega
  clear hb3 hB2 b0 b1 c0 c1 K0 K1 K2 K3
  go_wp2
  exact bodyPost_ret (v := .tuple #[.agg #[.int .i64 a, .int .i64 klo, .int .i64 khi, .int .i64 ppb, .int .i64 learnt, .int .i64 (min (refused + 1) 1152921504606846976)], .bool false, .int .i64 0]) (by rw [results_cell_tmp_tmp Tryz.results45]; go_simp) rfl ⟨rfl, by repeat (with_reducible first | exact hB3.out | refine below_alloc ?_ _ | refine below_set ?_ (by omega) _)⟩

set_option maxHeartbeats 2000000 in
theorem rLearn_yes (k : Kn) (t lo hi : Int) (w : World) (hk : k.goodAt t) (hs : okS lo hi = true) (hm : max (k.nowLo t) lo ≤ min (k.nowHi t) hi) :
    Calls Tryz.prog 45 #[.agg #[.int .i64 k.a, .int .i64 k.lo, .int .i64 k.hi, .int .i64 k.ppb, .int .i64 k.learnt, .int .i64 k.refused], .int .i64 t, .agg #[.int .i64 lo, .int .i64 hi]] w fun e w' =>
      e = .returned (.tuple #[.agg #[.int .i64 t, .int .i64 (max (k.nowLo t) lo), .int .i64 (min (k.nowHi t) hi), .int .i64 k.ppb, .int .i64 (min (k.learnt + 1) 1152921504606846976), .int .i64 k.refused], .bool true, .int .i64 0]) ∧ Below w.heap.size w w' := by
  have N := Lib.hid fun W => rNow_ok k t W hk
  have V := Lib.hid fun W => rS_valid lo hi W hs
  have M := Lib.hid fun W => rMeet_yes (k.nowLo t) (k.nowHi t) lo hi W hk.span hs hm
  have r0 := hk.g.l0
  have r1 := hk.g.l1
  clear hm hs hk
  generalize k.nowLo t = nl at *
  generalize k.nowHi t = nh at *
  generalize max nl lo = ml at *
  generalize min nh hi = mh at *
  obtain ⟨a, klo, khi, ppb, learnt, refused⟩ := k
  dsimp only at *
  go_enter Tryz.func45, Tryz.ntmps45
  go_wp2_with fail
  refine (N.out _).mono ?_
  rintro e w1 ⟨rfl, hb1⟩
  have G0 := Lib.hid (((Blk.new _ _ _).alloc _).alloc _ |>.keep hb1)
  have G1 := Lib.hid ((Blk.new1 _ _ _ _).alloc _ |>.keep hb1)
  have G2 := Lib.hid ((Blk.new2 _ _ _ _ _).keep hb1)
  have hB1 := Lib.hid (below_then (below_alloc (below_alloc (below_alloc (Below.refl _ _) _) _) _) hb1)
  have hz1 : w.heap.size + 2 < w1.heap.size := by have := hb1.size; simp at this; omega
  have hz11 : w.heap.size + 1 < w1.heap.size := by omega
  have hz10 : w.heap.size < w1.heap.size := by omega
  clear hb1
  obtain ⟨a0, a1, _, _⟩ := blk2 G1.out
  go_wp2_with fail
  refine (V.out _).mono ?_
  rintro e w2 ⟨rfl, hb2⟩
  have hB2 := Lib.hid (below_then (below_alloc hB1.out _) hb2)
  have K0 := Lib.hid ((G0.out.alloc _).keep hb2)
  have K1 := Lib.hid ((G1.out.alloc _).keep hb2)
  have K2 := Lib.hid ((G2.out.alloc _).keep hb2)
  have K3 := Lib.hid ((Blk.new w1 _ _).keep hb2)
  clear hb2 hB1 a0 a1 G0 G1 G2
  obtain ⟨b0, b1, _, _⟩ := blk2 K3.out
  obtain ⟨c0, c1, _, _⟩ := blk2 K1.out
  go_wp2_with fail
  refine (M.out _).mono ?_
  rintro e w3 ⟨rfl, hb3⟩
  have hB3 := Lib.hid (below_then hB2.out hb3)
  obtain ⟨d0, d1, d2, d3, d4, d5⟩ := blk6 (K0.out.keep hb3)
  obtain ⟨f0, f1, f2, f3, f4, f5⟩ := frz6 (K0.out.keep hb3)
  obtain ⟨p0, p1, p2, p3, p4, p5⟩ := blk6 (K2.out.keep hb3)
  obtain ⟨q0, q1, q2, q3, q4, q5⟩ := frz6 (K2.out.keep hb3)
  have hz3 : w.heap.size + 2 < w3.heap.size := by have := hB3.out.size; have := K2.out.lt; have := hb3.size; omega
  have hz31 : w.heap.size + 1 < w3.heap.size := by omega
  have hz30 : w.heap.size < w3.heap.size := by omega
  clear hb3 hB2 b0 b1 c0 c1 K0 K1 K2 K3
  go_wp2
  exact bodyPost_ret (v := .tuple #[.agg #[.int .i64 t, .int .i64 ml, .int .i64 mh, .int .i64 ppb, .int .i64 (min (learnt + 1) 1152921504606846976), .int .i64 refused], .bool true, .int .i64 0]) (by rw [results_cell_tmp_tmp Tryz.results45]; go_simp) rfl ⟨rfl, by repeat (with_reducible first | exact hB3.out | refine below_alloc ?_ _ | refine below_drew ?_ | refine below_set ?_ (by omega) _)⟩
end Go.Proofs.YtnafhblioabkgaaGreat
