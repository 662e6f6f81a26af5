/- steer.Read: the clock at a reading, for numbers in their ranges. -/
import Derived.Test.YtnafhblioabkgaaGreatSteer
namespace Go.Proofs.YtnafhblioabkgaaGreat
open Go.RowKit

set_option maxHeartbeats 4000000 in
theorem Read_first (c : Ck) (t lo hi : Int) (w : World) (hc : c.goodAt t) (hs : okS lo hi = true) (hset : c.set = false) :
    Calls Tryz.prog 64 #[.agg #[.int .i64 c.aim, .int .i64 c.rate, .bool c.set, .bool c.held, .int .i64 c.a, .int .i64 c.shown], .int .i64 t, .agg #[.int .i64 lo, .int .i64 hi]] w fun e w' =>
      e = .returned (.tuple #[.agg #[.int .i64 c.aim, .int .i64 c.rate, .bool true, .bool false, .int .i64 t, .int .i64 (target lo hi c.aim)], .int .i64 0]) ∧ Below w.heap.size w w' := by
  obtain ⟨a0, a1, r0, r1, ha, hsh, ht, ho⟩ := hc
  have C := Lib.hid fun W => steer_Check c W a0 a1 r0 r1 ha hsh
  have V := Lib.hid fun W => okS_valid lo hi W hs
  have T := Lib.hid fun W => ticks_Valid t W
  rw [ht] at T
  have G := Lib.hid fun W => Target_ok lo hi c.aim W hs a0 a1
  have sv := okS_iff.1 hs
  have av := okT_iff.1 ha
  have bv := okT_iff.1 hsh
  have cv := okT_iff.1 ht
  generalize target lo hi c.aim = tg at *
  obtain ⟨aim, rate, set, held, a, shown⟩ := c
  dsimp only at *
  subst hset
  clear ha hsh ht hs ho
  go_enter Tryz.func64, Tryz.ntmps64
  go_wp2_with fail
  refine (C.out _).mono ?_
  rintro e w1 ⟨rfl, hb1⟩
  have G0 := Lib.hid (((Blk.new _ _ _).alloc _).alloc _ |>.keep hb1)
  have G1 := Lib.hid ((Blk.new1 _ _ _ _).alloc _ |>.keep hb1)
  have G2 := Lib.hid ((Blk.new2 _ _ _ _ _).keep hb1)
  have hB1 := Lib.hid (below_then (below_alloc (below_alloc (below_alloc (Below.refl _ _) _) _) _) hb1)
  clear hb1
  obtain ⟨c0, c1, _, _⟩ := blk2 G1.out
  go_wp2_with fail
  refine (V.out _).mono ?_
  rintro e w2 ⟨rfl, hb2⟩
  have hB2 := Lib.hid (below_then hB1.out hb2)
  have K0 := Lib.hid (G0.out.keep hb2)
  have K1 := Lib.hid (G1.out.keep hb2)
  have K2 := Lib.hid (G2.out.keep hb2)
  clear hb2 hB1 c0 c1 G0 G1 G2
  obtain ⟨c0, c1, _, _⟩ := blk2 K1.out
  obtain ⟨k0, k1, k2, k3, k4, k5⟩ := blk6 K0.out
  go_wp2_with fail
  refine (T.out _).mono ?_
  rintro e w3 ⟨rfl, rfl⟩
  go_wp2_with fail
  refine (G.out _).mono ?_
  rintro e w4 ⟨rfl, hb4⟩
  have hB4 := Lib.hid (below_then hB2.out hb4)
  have L0 := Lib.hid (K0.out.keep hb4)
  have L1 := Lib.hid (K1.out.keep hb4)
  have L2 := Lib.hid (K2.out.keep hb4)
  clear hb4 hB2 c0 c1 k0 k1 k2 k3 k4 k5 K0 K1 K2
  obtain ⟨c0, c1, _, _⟩ := blk2 L1.out
  obtain ⟨k0, k1, k2, k3, k4, k5⟩ := blk6 L0.out
  obtain ⟨p0, p1, p2, p3, p4, p5⟩ := blk6 L2.out
  obtain ⟨q0, q1, q2, q3, q4, q5⟩ := frz6 L2.out
  clear L0 L1 L2
  go_wp2
  all_goals exact bodyPost_ret (v := .tuple #[.agg #[.int .i64 aim, .int .i64 rate, .bool true, .bool false, .int .i64 t, .int .i64 tg], .int .i64 0]) (by rw [results_cell_tmp Tryz.results64]; go_simp) rfl ⟨rfl, by repeat (with_reducible first | exact hB4.out | refine below_drew ?_ | refine below_drewN ?_ _ | refine below_set ?_ (by omega) _)⟩

set_option maxHeartbeats 4000000 in
theorem Read_held (c : Ck) (t lo hi : Int) (w : World) (hc : c.goodAt t) (hs : okS lo hi = true) (hset : c.set = true) (hh : hi < c.shown) :
    Calls Tryz.prog 64 #[.agg #[.int .i64 c.aim, .int .i64 c.rate, .bool c.set, .bool c.held, .int .i64 c.a, .int .i64 c.shown], .int .i64 t, .agg #[.int .i64 lo, .int .i64 hi]] w fun e w' =>
      e = .returned (.tuple #[.agg #[.int .i64 c.aim, .int .i64 c.rate, .bool true, .bool true, .int .i64 t, .int .i64 c.shown], .int .i64 0]) ∧ Below w.heap.size w w' := by
  obtain ⟨a0, a1, r0, r1, ha, hsh, ht, ho⟩ := hc
  have C := Lib.hid fun W => steer_Check c W a0 a1 r0 r1 ha hsh
  have V := Lib.hid fun W => okS_valid lo hi W hs
  have T := Lib.hid fun W => ticks_Valid t W
  rw [ht] at T
  have G := Lib.hid fun W => Target_ok lo hi c.aim W hs a0 a1
  have sv := okS_iff.1 hs
  have av := okT_iff.1 ha
  have bv := okT_iff.1 hsh
  have cv := okT_iff.1 ht
  have ho' := ho hset
  have rl := rate_le (show 0 ≤ t - c.a by omega) r0 r1
  have D := Lib.hid fun W => Down_rate (t - c.a) c.rate W (by omega) (by omega) r0 r1
  generalize (t - c.a) * c.rate / 1000000000 = q at *
  generalize target lo hi c.aim = tg at *
  obtain ⟨aim, rate, set, held, a, shown⟩ := c
  dsimp only at *
  subst hset
  clear ha hsh ht hs ho
  have t1 : decide (t < a) = false := by simp; omega
  have e8 : IntKind.i64.wrap (t - a) = t - a := IntWalk.i64_in _ (by omega)
  have e9 : IntKind.i64.wrap (shown + (t - a)) = shown + (t - a) := IntWalk.i64_in _ (by omega)
  have e10 : IntKind.i64.wrap (shown + (t - a) + q) = shown + (t - a) + q := IntWalk.i64_in _ (by omega)
  have t2 : decide (hi < shown) = true := by simp; omega
  go_enter Tryz.func64, Tryz.ntmps64
  go_wp2_with fail
  refine (C.out _).mono ?_
  rintro e w1 ⟨rfl, hb1⟩
  have G0 := Lib.hid (((Blk.new _ _ _).alloc _).alloc _ |>.keep hb1)
  have G1 := Lib.hid ((Blk.new1 _ _ _ _).alloc _ |>.keep hb1)
  have G2 := Lib.hid ((Blk.new2 _ _ _ _ _).keep hb1)
  have hB1 := Lib.hid (below_then (below_alloc (below_alloc (below_alloc (Below.refl _ _) _) _) _) hb1)
  clear hb1
  obtain ⟨c0, c1, _, _⟩ := blk2 G1.out
  go_wp2_with fail
  refine (V.out _).mono ?_
  rintro e w2 ⟨rfl, hb2⟩
  have hB2 := Lib.hid (below_then hB1.out hb2)
  have K0 := Lib.hid (G0.out.keep hb2)
  have K1 := Lib.hid (G1.out.keep hb2)
  have K2 := Lib.hid (G2.out.keep hb2)
  clear hb2 hB1 c0 c1 G0 G1 G2
  obtain ⟨c0, c1, _, _⟩ := blk2 K1.out
  obtain ⟨k0, k1, k2, k3, k4, k5⟩ := blk6 K0.out
  go_wp2_with fail
  refine (T.out _).mono ?_
  rintro e w3 ⟨rfl, rfl⟩
  go_wp2_with fail
  refine (G.out _).mono ?_
  rintro e w4 ⟨rfl, hb4⟩
  have hB4 := Lib.hid (below_then hB2.out hb4)
  have L0 := Lib.hid (K0.out.keep hb4)
  have L1 := Lib.hid (K1.out.keep hb4)
  have L2 := Lib.hid (K2.out.keep hb4)
  clear hb4 hB2 c0 c1 k0 k1 k2 k3 k4 k5 K0 K1 K2
  obtain ⟨c0, c1, _, _⟩ := blk2 L1.out
  obtain ⟨k0, k1, k2, k3, k4, k5⟩ := blk6 L0.out
  obtain ⟨p0, p1, p2, p3, p4, p5⟩ := blk6 L2.out
  obtain ⟨q0, q1, q2, q3, q4, q5⟩ := frz6 L2.out
  clear L0 L1 L2
  go_wp2
  go_region_held3 (fun w' => w'.cell? ⟨w.heap.size, 5, none⟩ = some (.int .i64 shown) ∧ w'.cell? ⟨w.heap.size, 1, none⟩ = some (.int .i64 rate)) (first | go_keep) (first | (go_at_call 86; refine (D.out _).mono ?_; rintro e w' ⟨rfl, n, rfl⟩))
  all_goals go_wp2
  all_goals exact bodyPost_ret (v := .tuple #[.agg #[.int .i64 aim, .int .i64 rate, .bool true, .bool true, .int .i64 t, .int .i64 shown], .int .i64 0]) (by rw [results_cell_tmp Tryz.results64]; go_simp) rfl ⟨rfl, by repeat (with_reducible first | exact hB4.out | refine below_drew ?_ | refine below_drewN ?_ _ | refine below_set ?_ (by omega) _)⟩

set_option maxHeartbeats 4000000 in
theorem Read_free (c : Ck) (t lo hi : Int) (w : World) (hc : c.goodAt t) (hs : okS lo hi = true) (hset : c.set = true) (hh : ¬ hi < c.shown) :
    Calls Tryz.prog 64 #[.agg #[.int .i64 c.aim, .int .i64 c.rate, .bool c.set, .bool c.held, .int .i64 c.a, .int .i64 c.shown], .int .i64 t, .agg #[.int .i64 lo, .int .i64 hi]] w fun e w' =>
      e = .returned (.tuple #[.agg #[.int .i64 c.aim, .int .i64 c.rate, .bool true, .bool false, .int .i64 t, .int .i64 (max (max c.shown lo) (min (target lo hi c.aim) (min 1152921504606846976 (c.shown + (t - c.a) + (t - c.a) * c.rate / 1000000000))))], .int .i64 0]) ∧ Below w.heap.size w w' := by
  obtain ⟨a0, a1, r0, r1, ha, hsh, ht, ho⟩ := hc
  have C := Lib.hid fun W => steer_Check c W a0 a1 r0 r1 ha hsh
  have V := Lib.hid fun W => okS_valid lo hi W hs
  have T := Lib.hid fun W => ticks_Valid t W
  rw [ht] at T
  have G := Lib.hid fun W => Target_ok lo hi c.aim W hs a0 a1
  have sv := okS_iff.1 hs
  have av := okT_iff.1 ha
  have bv := okT_iff.1 hsh
  have cv := okT_iff.1 ht
  have ho' := ho hset
  have rl := rate_le (show 0 ≤ t - c.a by omega) r0 r1
  have D := Lib.hid fun W => Down_rate (t - c.a) c.rate W (by omega) (by omega) r0 r1
  generalize (t - c.a) * c.rate / 1000000000 = q at *
  generalize target lo hi c.aim = tg at *
  obtain ⟨aim, rate, set, held, a, shown⟩ := c
  dsimp only at *
  subst hset
  clear ha hsh ht hs ho
  have t1 : decide (t < a) = false := by simp; omega
  have e8 : IntKind.i64.wrap (t - a) = t - a := IntWalk.i64_in _ (by omega)
  have e9 : IntKind.i64.wrap (shown + (t - a)) = shown + (t - a) := IntWalk.i64_in _ (by omega)
  have e10 : IntKind.i64.wrap (shown + (t - a) + q) = shown + (t - a) + q := IntWalk.i64_in _ (by omega)
  have t2 : decide (hi < shown) = false := by simp; omega
  obtain ⟨z, hz⟩ : ∃ z, z = min tg (min 1152921504606846976 (shown + (t - a) + q)) := ⟨_, rfl⟩
  obtain ⟨r, hr⟩ : ∃ r, r = max (max shown lo) z := ⟨_, rfl⟩
  have e11 : (if (if shown < lo then lo else shown) < z then z else if shown < lo then lo else shown) = r := by
    rw [hr]; split <;> split <;> omega
  rw [← hz, ← hr]
  replace hz := hz.symm
  clear hr hh
  go_enter Tryz.func64, Tryz.ntmps64
  go_wp2_with fail
  refine (C.out _).mono ?_
  rintro e w1 ⟨rfl, hb1⟩
  have G0 := Lib.hid (((Blk.new _ _ _).alloc _).alloc _ |>.keep hb1)
  have G1 := Lib.hid ((Blk.new1 _ _ _ _).alloc _ |>.keep hb1)
  have G2 := Lib.hid ((Blk.new2 _ _ _ _ _).keep hb1)
  have hB1 := Lib.hid (below_then (below_alloc (below_alloc (below_alloc (Below.refl _ _) _) _) _) hb1)
  clear hb1
  obtain ⟨c0, c1, _, _⟩ := blk2 G1.out
  go_wp2_with fail
  refine (V.out _).mono ?_
  rintro e w2 ⟨rfl, hb2⟩
  have hB2 := Lib.hid (below_then hB1.out hb2)
  have K0 := Lib.hid (G0.out.keep hb2)
  have K1 := Lib.hid (G1.out.keep hb2)
  have K2 := Lib.hid (G2.out.keep hb2)
  clear hb2 hB1 c0 c1 G0 G1 G2
  obtain ⟨c0, c1, _, _⟩ := blk2 K1.out
  obtain ⟨k0, k1, k2, k3, k4, k5⟩ := blk6 K0.out
  go_wp2_with fail
  refine (T.out _).mono ?_
  rintro e w3 ⟨rfl, rfl⟩
  go_wp2_with fail
  refine (G.out _).mono ?_
  rintro e w4 ⟨rfl, hb4⟩
  have hB4 := Lib.hid (below_then hB2.out hb4)
  have L0 := Lib.hid (K0.out.keep hb4)
  have L1 := Lib.hid (K1.out.keep hb4)
  have L2 := Lib.hid (K2.out.keep hb4)
  clear hb4 hB2 c0 c1 k0 k1 k2 k3 k4 k5 K0 K1 K2
  obtain ⟨c0, c1, _, _⟩ := blk2 L1.out
  obtain ⟨k0, k1, k2, k3, k4, k5⟩ := blk6 L0.out
  obtain ⟨p0, p1, p2, p3, p4, p5⟩ := blk6 L2.out
  obtain ⟨q0, q1, q2, q3, q4, q5⟩ := frz6 L2.out
  clear L0 L1 L2
  go_wp2
  go_region_held3 (fun w' => w'.cell? ⟨w.heap.size, 5, none⟩ = some (.int .i64 shown) ∧ w'.cell? ⟨w.heap.size, 1, none⟩ = some (.int .i64 rate)) (first | go_keep) (first | (go_at_call 86; refine (D.out _).mono ?_; rintro e w' ⟨rfl, n, rfl⟩))
  all_goals go_wp2
  all_goals exact bodyPost_ret (v := .tuple #[.agg #[.int .i64 aim, .int .i64 rate, .bool true, .bool false, .int .i64 t, .int .i64 r], .int .i64 0]) (by rw [results_cell_tmp Tryz.results64]; go_simp) rfl ⟨rfl, by repeat (with_reducible first | exact hB4.out | refine below_drew ?_ | refine below_drewN ?_ _ | refine below_set ?_ (by omega) _)⟩

end Go.Proofs.YtnafhblioabkgaaGreat
/- exchange.At: the span of a sample, its numbers not too great. -/
namespace Go.Proofs.YtnafhblioabkgaaGreat
open Go.RowKit

set_option maxHeartbeats 1000000 in
theorem exchange_Check (s : Sm) (w : World) (h : s.good) :
    Calls Tryz.prog 56 #[.agg #[.int .i64 s.t1, .int .i64 s.t2, .int .i64 s.t3, .int .i64 s.t4, .int .i64 s.err]] w fun e w' => e = .returned (.int .i64 (if s.t3 < s.t2 then 12 else 0)) ∧ Below w.heap.size w w' := by
  obtain ⟨t1, t2, t3, t4, err⟩ := s
  obtain ⟨a0, a1, b0, b1, c0, c1, d0, d1, o, d, e0, e1⟩ := h
  dsimp only at *
  have T : ∀ (t : Int) (W : World), -337769972052787200 ≤ t → t ≤ 337769972052787200 → Calls Tryz.prog 58 #[.int .i64 t] W fun e w' => e = .returned (.bool true) ∧ W = w' := by
    intro t W h0 h1
    have := ticks_Valid t W
    rwa [okT_mk (by omega) (by omega)] at this
  have T' := Lib.hid T
  clear T
  have x1 : decide (err < 0) = false := by simp; omega
  have x2 : decide (1152921504606846976 < err) = false := by simp; omega
  have x3 : decide (t4 < t1) = false := by simp; omega
  by_cases x4 : t3 < t2
  · rw [if_pos x4]
    go_enter Tryz.func56, Tryz.ntmps56
    go_wp2
    refine wp_loop_rounds 5 ?_
    rw [rounds_succ]
    go_wp2_with (go_at_call 58; refine (T'.out _ _ (by omega) (by omega)).mono ?_; rintro e w' ⟨rfl, rfl⟩)
    rw [rounds_succ]
    go_wp2_with (go_at_call 58; refine (T'.out _ _ (by omega) (by omega)).mono ?_; rintro e w' ⟨rfl, rfl⟩)
    rw [rounds_succ]
    go_wp2_with (go_at_call 58; refine (T'.out _ _ (by omega) (by omega)).mono ?_; rintro e w' ⟨rfl, rfl⟩)
    rw [rounds_succ]
    go_wp2_with (go_at_call 58; refine (T'.out _ _ (by omega) (by omega)).mono ?_; rintro e w' ⟨rfl, rfl⟩)
    rw [rounds_succ]
    go_wp2
    go_ret
    exact ⟨rfl, below_alloc (below_alloc (Below.refl _ _) _) _⟩
  · rw [if_neg x4]
    go_enter Tryz.func56, Tryz.ntmps56
    go_wp2
    refine wp_loop_rounds 5 ?_
    rw [rounds_succ]
    go_wp2_with (go_at_call 58; refine (T'.out _ _ (by omega) (by omega)).mono ?_; rintro e w' ⟨rfl, rfl⟩)
    rw [rounds_succ]
    go_wp2_with (go_at_call 58; refine (T'.out _ _ (by omega) (by omega)).mono ?_; rintro e w' ⟨rfl, rfl⟩)
    rw [rounds_succ]
    go_wp2_with (go_at_call 58; refine (T'.out _ _ (by omega) (by omega)).mono ?_; rintro e w' ⟨rfl, rfl⟩)
    rw [rounds_succ]
    go_wp2_with (go_at_call 58; refine (T'.out _ _ (by omega) (by omega)).mono ?_; rintro e w' ⟨rfl, rfl⟩)
    rw [rounds_succ]
    go_wp2
    go_ret
    exact ⟨rfl, below_alloc (below_alloc (Below.refl _ _) _) _⟩

set_option maxHeartbeats 2000000 in
theorem At_order (s : Sm) (p : Int) (w : World) (h : s.good) (p0 : 0 ≤ p) (p1 : p ≤ 1000000) (h12 : s.t3 < s.t2) :
    Calls Tryz.prog 31 #[.agg #[.int .i64 s.t1, .int .i64 s.t2, .int .i64 s.t3, .int .i64 s.t4, .int .i64 s.err], .int .i64 p] w fun e w' => e = .returned (.tuple #[.agg #[.int .i64 0, .int .i64 0], .int .i64 12]) ∧ Below w.heap.size w w' := by
  have C := Lib.hid fun W => exchange_Check s W h
  have b := Sm.hi_le h p0 p1
  rw [if_pos h12] at C
  clear b
  obtain ⟨t1, t2, t3, t4, err⟩ := s
  obtain ⟨a0, a1, b0, b1, c0, c1, d0, d1, o, d, e0, e1⟩ := h
  dsimp only at *
  go_enter Tryz.func31, Tryz.ntmps31
  go_wp2_with fail
  refine (C.out _).mono ?_
  rintro e w1 ⟨rfl, hb1⟩
  have hB1 := Lib.hid (below_then (below_alloc (below_alloc (Below.refl _ _) _) _) hb1)
  obtain ⟨k0, k1, f0, f1⟩ := blk2 ((Blk.new1 _ _ _ _).keep hb1)
  clear hb1
  go_wp2
  exact bodyPost_ret (v := .tuple #[.agg #[.int .i64 0, .int .i64 0], .int .i64 12]) (by rw [results_cell_tmp Tryz.results31]; go_simp) rfl ⟨rfl, by repeat (with_reducible first | exact hB1.out | refine below_alloc ?_ _ | refine below_set ?_ (by omega) _)⟩

set_option maxHeartbeats 2000000 in
theorem At_sample (s : Sm) (p : Int) (w : World) (h : s.good) (p0 : 0 ≤ p) (p1 : p ≤ 1000000) (h12 : ¬ s.t3 < s.t2) (h20 : s.hi p < s.lo) :
    Calls Tryz.prog 31 #[.agg #[.int .i64 s.t1, .int .i64 s.t2, .int .i64 s.t3, .int .i64 s.t4, .int .i64 s.err], .int .i64 p] w fun e w' => e = .returned (.tuple #[.agg #[.int .i64 0, .int .i64 0], .int .i64 20]) ∧ Below w.heap.size w w' := by
  have C := Lib.hid fun W => exchange_Check s W h
  have b := Sm.hi_le h p0 p1
  rw [if_neg h12] at C
  have E := Lib.hid fun W => Elapsed_ok (s.t4 - s.t1) p W (by have := h.o; omega) (by have := h.d; omega) p0 p1
  have T1 := Lib.hid fun W => ticks_Valid s.lo W
  rw [okT_mk (by omega) (by omega)] at T1
  have T2 := Lib.hid fun W => ticks_Valid (s.hi p) W
  rw [okT_mk (by omega) (by omega)] at T2
  have b1 := elHi_ge (show 0 ≤ s.t4 - s.t1 by have := h.o; omega) p0 p1
  have b3 := elHi_le (show 0 ≤ s.t4 - s.t1 by have := h.o; omega) p0 p1
  unfold Sm.lo Sm.hi at *
  obtain ⟨t1, t2, t3, t4, err⟩ := s
  obtain ⟨a0, a1, b0, b1, c0, c1, d0, d1, o, d, e0, e1⟩ := h
  dsimp only at *
  generalize elLo (t4 - t1) p = l at *
  generalize elHi (t4 - t1) p = u at *
  go_enter Tryz.func31, Tryz.ntmps31
  go_wp2_with fail
  refine (C.out _).mono ?_
  rintro e w1 ⟨rfl, hb1⟩
  have hB1 := Lib.hid (below_then (below_alloc (below_alloc (Below.refl _ _) _) _) hb1)
  have G0 := Lib.hid (((Blk.new _ _ _).alloc _).keep hb1)
  have G1 := Lib.hid ((Blk.new1 _ _ _ _).keep hb1)
  clear hb1
  obtain ⟨k0, k1, k2, k3, k4⟩ := blk5 G0.out
  go_wp2_with fail
  refine (E.out _).mono ?_
  rintro e w2 ⟨rfl, hb2⟩
  have hB2 := Lib.hid (below_then hB1.out hb2)
  have K0 := Lib.hid (G0.out.keep hb2)
  have K1 := Lib.hid (G1.out.keep hb2)
  clear hb2 hB1 k0 k1 k2 k3 k4 G0 G1
  obtain ⟨k0, k1, k2, k3, k4⟩ := blk5 K0.out
  obtain ⟨q0, q1, f0, f1⟩ := blk2 K1.out
  have hz1 : w.heap.size + 1 < w2.heap.size := K1.out.lt
  have hz0 : w.heap.size < w2.heap.size := K0.out.lt
  clear K0 K1
  go_wp2_with fail
  refine (T1.out _).mono ?_
  rintro e w3 ⟨rfl, rfl⟩
  go_wp2_with fail
  refine (T2.out _).mono ?_
  rintro e w3 ⟨rfl, rfl⟩
  go_wp2
  exact bodyPost_ret (v := .tuple #[.agg #[.int .i64 0, .int .i64 0], .int .i64 20]) (by rw [results_cell_tmp Tryz.results31]; go_simp) rfl ⟨rfl, by repeat (with_reducible first | exact hB2.out | refine below_alloc ?_ _ | refine below_set ?_ (by omega) _)⟩

set_option maxHeartbeats 2000000 in
theorem At_span (s : Sm) (p : Int) (w : World) (h : s.good) (p0 : 0 ≤ p) (p1 : p ≤ 1000000) (h12 : ¬ s.t3 < s.t2) (h20 : ¬ s.hi p < s.lo) :
    Calls Tryz.prog 31 #[.agg #[.int .i64 s.t1, .int .i64 s.t2, .int .i64 s.t3, .int .i64 s.t4, .int .i64 s.err], .int .i64 p] w fun e w' => e = .returned (.tuple #[.agg #[.int .i64 s.lo, .int .i64 (s.hi p)], .int .i64 0]) ∧ Below w.heap.size w w' := by
  have C := Lib.hid fun W => exchange_Check s W h
  have b := Sm.hi_le h p0 p1
  rw [if_neg h12] at C
  have E := Lib.hid fun W => Elapsed_ok (s.t4 - s.t1) p W (by have := h.o; omega) (by have := h.d; omega) p0 p1
  have T1 := Lib.hid fun W => ticks_Valid s.lo W
  rw [okT_mk (by omega) (by omega)] at T1
  have T2 := Lib.hid fun W => ticks_Valid (s.hi p) W
  rw [okT_mk (by omega) (by omega)] at T2
  have b2 : s.lo ≤ s.hi p := by omega
  have b1 := elHi_ge (show 0 ≤ s.t4 - s.t1 by have := h.o; omega) p0 p1
  have b3 := elHi_le (show 0 ≤ s.t4 - s.t1 by have := h.o; omega) p0 p1
  unfold Sm.lo Sm.hi at *
  obtain ⟨t1, t2, t3, t4, err⟩ := s
  obtain ⟨a0, a1, b0, b1, c0, c1, d0, d1, o, d, e0, e1⟩ := h
  dsimp only at *
  generalize elLo (t4 - t1) p = l at *
  generalize elHi (t4 - t1) p = u at *
  go_enter Tryz.func31, Tryz.ntmps31
  go_wp2_with fail
  refine (C.out _).mono ?_
  rintro e w1 ⟨rfl, hb1⟩
  have hB1 := Lib.hid (below_then (below_alloc (below_alloc (Below.refl _ _) _) _) hb1)
  have G0 := Lib.hid (((Blk.new _ _ _).alloc _).keep hb1)
  have G1 := Lib.hid ((Blk.new1 _ _ _ _).keep hb1)
  clear hb1
  obtain ⟨k0, k1, k2, k3, k4⟩ := blk5 G0.out
  go_wp2_with fail
  refine (E.out _).mono ?_
  rintro e w2 ⟨rfl, hb2⟩
  have hB2 := Lib.hid (below_then hB1.out hb2)
  have K0 := Lib.hid (G0.out.keep hb2)
  have K1 := Lib.hid (G1.out.keep hb2)
  clear hb2 hB1 k0 k1 k2 k3 k4 G0 G1
  obtain ⟨k0, k1, k2, k3, k4⟩ := blk5 K0.out
  obtain ⟨q0, q1, f0, f1⟩ := blk2 K1.out
  have hz1 : w.heap.size + 1 < w2.heap.size := K1.out.lt
  have hz0 : w.heap.size < w2.heap.size := K0.out.lt
  clear K0 K1
  go_wp2_with fail
  refine (T1.out _).mono ?_
  rintro e w3 ⟨rfl, rfl⟩
  go_wp2_with fail
  refine (T2.out _).mono ?_
  rintro e w3 ⟨rfl, rfl⟩
  go_wp2
  exact bodyPost_ret (v := .tuple #[.agg #[.int .i64 (t3 - err), .int .i64 (t2 + err + u)], .int .i64 0]) (by rw [results_cell_tmp Tryz.results31]; go_simp) rfl ⟨rfl, by repeat (with_reducible first | exact hB2.out | refine below_alloc ?_ _ | refine below_set ?_ (by omega) _)⟩
end Go.Proofs.YtnafhblioabkgaaGreat
