/- The reference's layers 15, 23: spans projected, samples. -/
import Derived.Test.YtnafhblioabkgaaGreatRSpan
import Derived.BigQuiet
import Derived.Deep.QuietTactic
namespace Go.Proofs.YtnafhblioabkgaaGreat
open Go.RowKit

set_option maxHeartbeats 1000000 in
theorem rProject_ok (lo hi d p : Int) (w : World) (hs : okS lo hi = true) (d0 : 0 ≤ d) (d1 : d ≤ 576460752303423488) (p0 : 0 ≤ p) (p1 : p ≤ 1000000) (hh : hi + elHi d p ≤ 1152921504606846976) :
    Calls Tryz.prog 49 #[.agg #[.int .i64 lo, .int .i64 hi], .int .i64 d, .int .i64 p] w fun e w' => e = .returned (.tuple #[.agg #[.int .i64 (lo + elLo d p), .int .i64 (hi + elHi d p)], .int .i64 0]) ∧ Below w.heap.size w w' := by
  have s := okS_iff.1 hs
  have h1 := elLo_nonneg d0 p0
  have h2 := elLo_le d0 p0
  have h3 := elHi_ge d0 p0 p1
  have h4 := elHi_le d0 p0 p1
  have V := Lib.hid fun W => rS_valid lo hi W hs
  have E := Lib.hid fun W => rElapsed_ok d p W d0 d1 p0 p1
  generalize elLo d p = l at *
  generalize elHi d p = u at *
  have A := Lib.hid fun W => rAdd_ok lo hi l u W hs (okS_mk (by omega) (by omega) (by omega)) (okS_mk (by omega) (by omega) (by omega))
  generalize lo + l = rl at *
  generalize hi + u = rh at *
  clear hs s h1 h2 h3 h4 hh
  go_enter Tryz.func49, Tryz.ntmps49
  go_wp2_with fail
  refine (V.out _).mono ?_
  rintro e w1 ⟨rfl, hb1⟩
  have G0 := Lib.hid (((Blk.new _ _ _).alloc _).keep hb1)
  have G1 := Lib.hid ((Blk.new1 _ _ _ _).keep hb1)
  have hB1 := Lib.hid (below_then (below_alloc (below_alloc (Below.refl _ _) _) _) hb1)
  clear hb1
  go_wp2_with fail
  refine (E.out _).mono ?_
  rintro e w2 ⟨rfl, hb2⟩
  have hB2 := Lib.hid (below_then hB1.out hb2)
  obtain ⟨a0, a1, _, _⟩ := blk2 (G0.out.keep hb2)
  have K1 := Lib.hid (G1.out.keep hb2)
  have hz0 : w.heap.size < w2.heap.size := (G0.out.keep hb2).lt
  clear hb2 hB1 G0 G1
  go_wp2_with fail
  refine (A.out _).mono ?_
  rintro e w3 ⟨rfl, hb3⟩
  have hB3 := Lib.hid (below_then (below_alloc hB2.out _) hb3)
  obtain ⟨c0, c1, f0, f1⟩ := blk2 ((K1.out.alloc _).keep hb3)
  have hz1 : w.heap.size + 1 < w3.heap.size := ((K1.out.alloc _).keep hb3).lt
  clear hb3 a0 a1
  go_wp2
  exact bodyPost_ret (v := .tuple #[.agg #[.int .i64 rl, .int .i64 rh], .int .i64 0]) (by rw [results_cell_tmp Tryz.results49]; go_simp) rfl ⟨rfl, by repeat (with_reducible first | exact hB3.out | refine below_alloc ?_ _ | refine below_drew ?_ | refine below_drewN ?_ _ | refine below_set ?_ (by omega) _)⟩

set_option maxHeartbeats 1000000 in
theorem rSample_Check (s : Sm) (w : World) (h : s.good) : Calls Tryz.prog 69 #[.agg #[.int .i64 s.t1, .int .i64 s.t2, .int .i64 s.t3, .int .i64 s.t4, .int .i64 s.err]] w fun e w' => e = .returned (.int .i64 (if s.t3 < s.t2 then 12 else 0)) ∧ Below w.heap.size w w' := by
  obtain ⟨t1, t2, t3, t4, err⟩ := s
  obtain ⟨a0, a1, b0, b1, c0, c1, d0, d1, o, d, e0, e1⟩ := h
  dsimp only at *
  have T1 := Lib.hid fun W => rValid t1 W
  have T2 := Lib.hid fun W => rValid t2 W
  have T3 := Lib.hid fun W => rValid t3 W
  have T4 := Lib.hid fun W => rValid t4 W
  rw [okT_mk (by omega) (by omega)] at T1 T2 T3 T4
  have x1 : decide (err < 0) = false := by simp; omega
  have x2 : decide (1152921504606846976 < err) = false := by simp; omega
  have x3 : decide (t4 < t1) = false := by simp; omega
  by_cases h : t3 < t2
  · rw [if_pos h]
    have x4 : decide (t3 < t2) = true := by simp [h]
    go_enter Tryz.func69, Tryz.ntmps69
    go_wp2_with fail
    refine (T1.out _).mono ?_
    rintro e w' ⟨rfl, rfl⟩
    go_wp2_with fail
    refine (T2.out _).mono ?_
    rintro e w' ⟨rfl, rfl⟩
    go_wp2_with fail
    refine (T3.out _).mono ?_
    rintro e w' ⟨rfl, rfl⟩
    go_wp2_with fail
    refine (T4.out _).mono ?_
    rintro e w' ⟨rfl, rfl⟩
    go_wp2
    go_ret
    exact ⟨rfl, below_alloc (Below.refl _ _) _⟩
  · rw [if_neg h]
    have x4 : decide (t3 < t2) = false := by simp; omega
    go_enter Tryz.func69, Tryz.ntmps69
    go_wp2_with fail
    refine (T1.out _).mono ?_
    rintro e w' ⟨rfl, rfl⟩
    go_wp2_with fail
    refine (T2.out _).mono ?_
    rintro e w' ⟨rfl, rfl⟩
    go_wp2_with fail
    refine (T3.out _).mono ?_
    rintro e w' ⟨rfl, rfl⟩
    go_wp2_with fail
    refine (T4.out _).mono ?_
    rintro e w' ⟨rfl, rfl⟩
    go_wp2
    go_ret
    exact ⟨rfl, below_alloc (Below.refl _ _) _⟩

set_option maxHeartbeats 2000000 in
theorem rAt_ok (s : Sm) (p : Int) (w : World) (h : s.good) (p0 : 0 ≤ p) (p1 : p ≤ 1000000) :
    Calls Tryz.prog 43 #[.agg #[.int .i64 s.t1, .int .i64 s.t2, .int .i64 s.t3, .int .i64 s.t4, .int .i64 s.err], .int .i64 p] w fun e w' => e = .returned (.tuple #[.agg #[.int .i64 (if s.code p = 0 then s.lo else 0), .int .i64 (if s.code p = 0 then s.hi p else 0)], .int .i64 (s.code p)]) ∧ Below w.heap.size w w' := by
  have C := Lib.hid fun W => rSample_Check s W h
  have b := Sm.hi_le h p0 p1
  have E := Lib.hid fun W => rElapsed_ok (s.t4 - s.t1) p W (by have := h.o; omega) (by have := h.d; omega) p0 p1
  have T1 := Lib.hid fun W => rValid s.lo W
  have T2 := Lib.hid fun W => rValid (s.hi p) W
  rw [okT_mk (by omega) (by omega)] at T1 T2
  have b1 := elHi_ge (show 0 ≤ s.t4 - s.t1 by have := h.o; omega) p0 p1
  have b3 := elHi_le (show 0 ≤ s.t4 - s.t1 by have := h.o; omega) p0 p1
  unfold Sm.code
  unfold Sm.lo Sm.hi at *
  obtain ⟨t1, t2, t3, t4, err⟩ := s
  obtain ⟨a0, a1, b0, b1', c0, c1, d0, d1, o, d, e0, e1⟩ := h
  dsimp only at *
  generalize elLo (t4 - t1) p = l at *
  generalize elHi (t4 - t1) p = u at *
  by_cases h12 : t3 < t2
  · rw [if_pos h12] at C
    simp only [h12, if_true, show ¬ ((12 : Int) = 0) by decide, if_false]
    go_enter Tryz.func43, Tryz.ntmps43
    go_wp2_with fail
    refine (C.out _).mono ?_
    rintro e w1 ⟨rfl, hb1⟩
    have hB1 := Lib.hid (below_then (below_alloc (below_alloc (Below.refl _ _) _) _) hb1)
    obtain ⟨q0, q1, f0, f1⟩ := blk2 ((Blk.new1 _ _ _ _).keep hb1)
    have hz1 : w.heap.size + 1 < w1.heap.size := ((Blk.new1 _ _ _ _).keep hb1).lt
    clear hb1
    go_wp2
    exact bodyPost_ret (v := .tuple #[.agg #[.int .i64 0, .int .i64 0], .int .i64 12]) (by rw [results_cell_tmp Tryz.results43]; go_simp) rfl ⟨rfl, by repeat (with_reducible first | exact hB1.out | refine below_alloc ?_ _ | refine below_drew ?_ | refine below_drewN ?_ _ | refine below_set ?_ (by omega) _)⟩
  · rw [if_neg h12] at C
    by_cases h20 : t2 + err + u < t3 - err
    · simp only [h12, h20, if_true, if_false, show ¬ ((20 : Int) = 0) by decide]
      have x5 : decide (t2 + err + u < t3 - err) = true := by simp [h20]
      have e8 : IntKind.i64.wrap (t4 - t1) = t4 - t1 := IntWalk.i64_in _ (by omega)
      have e9 : IntKind.i64.wrap (t3 - err) = t3 - err := IntWalk.i64_in _ (by omega)
      have e10 : IntKind.i64.wrap (t2 + err) = t2 + err := IntWalk.i64_in _ (by omega)
      have e11 : IntKind.i64.wrap (t2 + err + u) = t2 + err + u := IntWalk.i64_in _ (by omega)
      go_enter Tryz.func43, Tryz.ntmps43
      go_wp2_with fail
      refine (C.out _).mono ?_
      rintro e w1 ⟨rfl, hb1⟩
      have hB1 := Lib.hid (below_then (below_alloc (below_alloc (Below.refl _ _) _) _) hb1)
      have G0 := Lib.hid (((Blk.new _ _ _).alloc _).keep hb1)
      have G1 := Lib.hid ((Blk.new1 _ _ _ _).keep hb1)
      clear hb1
      obtain ⟨k0, k1, k2, k3, k4⟩ := blk5 G0.out
      go_wp2_with fail
      refine (E.out _).mono ?_
      rintro e w2 ⟨rfl, hb2⟩
      have hB2 := Lib.hid (below_then hB1.out hb2)
      have K0 := Lib.hid (G0.out.keep hb2)
      have K1 := Lib.hid (G1.out.keep hb2)
      clear hb2 hB1 k0 k1 k2 k3 k4 G0 G1
      obtain ⟨k0, k1, k2, k3, k4⟩ := blk5 K0.out
      obtain ⟨q0, q1, f0, f1⟩ := blk2 K1.out
      have hz1 : w.heap.size + 1 < w2.heap.size := K1.out.lt
      have hz0 : w.heap.size < w2.heap.size := K0.out.lt
      clear K0 K1
      go_wp2_with fail
      go_quiet (fail)
      go_wp2_with fail
      refine (T1.out _).mono ?_
      rintro e w3 ⟨rfl, rfl⟩
      go_wp2_with fail
      refine (T2.out _).mono ?_
      rintro e w3 ⟨rfl, rfl⟩
      go_wp2
      exact bodyPost_ret (v := .tuple #[.agg #[.int .i64 0, .int .i64 0], .int .i64 20]) (by rw [results_cell_tmp Tryz.results43]; go_simp) rfl ⟨rfl, by repeat (with_reducible first | exact hB2.out | refine below_alloc ?_ _ | refine below_drew ?_ | refine below_drewN ?_ _ | refine below_set ?_ (by omega) _)⟩
    · simp only [h12, h20, if_false, if_true]
      have x5 : decide (t2 + err + u < t3 - err) = false := by simp; omega
      have e8 : IntKind.i64.wrap (t4 - t1) = t4 - t1 := IntWalk.i64_in _ (by omega)
      have e9 : IntKind.i64.wrap (t3 - err) = t3 - err := IntWalk.i64_in _ (by omega)
      have e10 : IntKind.i64.wrap (t2 + err) = t2 + err := IntWalk.i64_in _ (by omega)
      have e11 : IntKind.i64.wrap (t2 + err + u) = t2 + err + u := IntWalk.i64_in _ (by omega)
      go_enter Tryz.func43, Tryz.ntmps43
      go_wp2_with fail
      refine (C.out _).mono ?_
      rintro e w1 ⟨rfl, hb1⟩
      have hB1 := Lib.hid (below_then (below_alloc (below_alloc (Below.refl _ _) _) _) hb1)
      have G0 := Lib.hid (((Blk.new _ _ _).alloc _).keep hb1)
      have G1 := Lib.hid ((Blk.new1 _ _ _ _).keep hb1)
      clear hb1
      obtain ⟨k0, k1, k2, k3, k4⟩ := blk5 G0.out
      go_wp2_with fail
      refine (E.out _).mono ?_
      rintro e w2 ⟨rfl, hb2⟩
      have hB2 := Lib.hid (below_then hB1.out hb2)
      have K0 := Lib.hid (G0.out.keep hb2)
      have K1 := Lib.hid (G1.out.keep hb2)
      clear hb2 hB1 k0 k1 k2 k3 k4 G0 G1
      obtain ⟨k0, k1, k2, k3, k4⟩ := blk5 K0.out
      obtain ⟨q0, q1, f0, f1⟩ := blk2 K1.out
      have hz1 : w.heap.size + 1 < w2.heap.size := K1.out.lt
      have hz0 : w.heap.size < w2.heap.size := K0.out.lt
      clear K0 K1
      go_wp2_with fail
      go_quiet (fail)
      go_wp2_with fail
      refine (T1.out _).mono ?_
      rintro e w3 ⟨rfl, rfl⟩
      go_wp2_with fail
      refine (T2.out _).mono ?_
      rintro e w3 ⟨rfl, rfl⟩
      go_wp2
      exact bodyPost_ret (v := .tuple #[.agg #[.int .i64 (t3 - err), .int .i64 (t2 + err + u)], .int .i64 0]) (by rw [results_cell_tmp Tryz.results43]; go_simp) rfl ⟨rfl, by repeat (with_reducible first | exact hB2.out | refine below_alloc ?_ _ | refine below_drew ?_ | refine below_drewN ?_ _ | refine below_set ?_ (by omega) _)⟩
end Go.Proofs.YtnafhblioabkgaaGreat
