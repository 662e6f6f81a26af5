/- The reference's layer 38: the clock at a reading. -/
import Derived.Test.YtnafhblioabkgaaGreatRKnown
import Derived.WalkLawsBesides
import Derived.IntWalk
import Derived.Deep.RegionHeld3
namespace Go.Proofs.YtnafhblioabkgaaGreat
open Go.RowKit

theorem share_ok (v n d : Int) (w : World) (v0 : 0 ≤ v) (v1 : v ≤ 2305843009213693952) (n0 : 0 ≤ n) (n1 : n ≤ d) (d0 : 0 < d) (d1 : d ≤ 1000000000) :
    Calls Tryz.prog 53 #[.int .i64 v, .int .i64 n, .int .i64 d] w fun e w' => e = .returned (.int .i64 (v * n / d)) ∧ w = w' := by
  have hq0 : 0 ≤ v / d := Int.ediv_nonneg v0 (by omega)
  have hm := Int.mul_ediv_add_emod v d
  have hm0 := Int.emod_nonneg v (show d ≠ 0 by omega)
  have hm1 := Int.emod_lt_of_pos v d0
  have e1 : v.tdiv d = v / d := Int.tdiv_eq_ediv_of_nonneg v0
  have hr := ratio_arith v n d d0
  have hle : v * n / d ≤ v := Int.ediv_le_of_le_mul d0 (Int.mul_le_mul_of_nonneg_left n1 v0)
  have hge : 0 ≤ v * n / d := Int.ediv_nonneg (Int.mul_nonneg v0 n0) (by omega)
  have t3 : (d == 0) = false := by simp; omega
  have t4 : ¬ d = 0 := by omega
  rw [Int.mul_comm] at hm
  generalize v * n / d = res at *
  generalize v / d = q at *
  have hqn : q * n ≤ q * d := Int.mul_le_mul_of_nonneg_left n1 hq0
  have hqn0 : 0 ≤ q * n := Int.mul_nonneg hq0 n0
  have hx0 : 0 ≤ (v - q * d) * n := Int.mul_nonneg (by omega) n0
  have hx1 : (v - q * d) * n ≤ 1000000000 * 1000000000 := Int.mul_le_mul (by omega) (by omega) n0 (by omega)
  have e2 : ((v - q * d) * n).tdiv d = (v - q * d) * n / d := Int.tdiv_eq_ediv_of_nonneg hx0
  have r0 : 0 ≤ (v - q * d) * n / d := Int.ediv_nonneg hx0 (by omega)
  have r1 : (v - q * d) * n / d ≤ (v - q * d) * n := Int.ediv_le_self _ hx0
  have w0 : IntKind.i64.wrap q = q := IntWalk.i64_in _ (by
    have : q * 1 ≤ q * d := Int.mul_le_mul_of_nonneg_left (by omega) hq0
    omega)
  have w1 : IntKind.i64.wrap (q * n) = q * n := IntWalk.i64_in _ (by omega)
  have w2 : IntKind.i64.wrap (q * d) = q * d := IntWalk.i64_in _ (by omega)
  have w3 : IntKind.i64.wrap (v - q * d) = v - q * d := IntWalk.i64_in _ (by omega)
  have w4 : IntKind.i64.wrap ((v - q * d) * n) = (v - q * d) * n := IntWalk.i64_in _ (by omega)
  generalize hrr : (v - q * d) * n / d = rr at *
  have w6 : IntKind.i64.wrap rr = rr := IntWalk.i64_in _ (by omega)
  have w5 : IntKind.i64.wrap (q * n + rr) = res := by rw [hr]; exact IntWalk.i64_in _ (by omega)
  clear hm hr hq0 hm0 hm1 hle hge hqn hqn0 hx0 hx1 r0 r1
  go_enter Tryz.func53, Tryz.ntmps53
  go_wp2
  go_ret
  exact ⟨rfl, rfl⟩
theorem share_rate (d r : Int) (w : World) (d0 : 0 ≤ d) (d1 : d ≤ 2305843009213693952) (r0 : 0 ≤ r) (r1 : r ≤ 1000000000) :
    Calls Tryz.prog 53 #[.int .i64 d, .int .i64 r, .int .i64 1000000000] w fun e w' => e = .returned (.int .i64 (d * r / 1000000000)) ∧ ∃ n, w' = w.drewN n :=
  (share_ok d r 1000000000 w d0 d1 r0 r1 (by omega) (by omega)).mono fun _ _ ⟨a, b⟩ => ⟨a, 0, b.symm⟩
theorem share_aim (d a : Int) (w : World) (d0 : 0 ≤ d) (d1 : d ≤ 2305843009213693952) (a0 : 0 ≤ a) (a1 : a ≤ 1000) :
    Calls Tryz.prog 53 #[.int .i64 d, .int .i64 a, .int .i64 1000] w fun e w' => e = .returned (.int .i64 (d * a / 1000)) ∧ ∃ n, w' = w.drewN n :=
  (share_ok d a 1000 w d0 d1 a0 a1 (by omega) (by omega)).mono fun _ _ ⟨a, b⟩ => ⟨a, 0, b.symm⟩

theorem rTarget_ok (lo hi aim : Int) (w : World) (h : okS lo hi = true) (a0 : 0 ≤ aim) (a1 : aim ≤ 1000) : Calls Tryz.prog 52 #[.agg #[.int .i64 lo, .int .i64 hi], .int .i64 aim] w fun e w' => e = .returned (.tuple #[.int .i64 (target lo hi aim), .int .i64 0]) ∧ Below w.heap.size w w' := by
  have s := okS_iff.1 h
  have V := Lib.hid fun W => rS_valid lo hi W h
  have Wd := Lib.hid fun W => rWidth_ok lo hi W h
  have D := Lib.hid fun W => share_aim (hi - lo) aim W (by omega) (by omega) a0 a1
  have b := target_le s.2.1 a0 a1
  unfold target at *
  generalize (hi - lo) * aim / 1000 = x at *
  have t1 : decide (aim < 0) = false := by simp; omega
  have t2 : decide (1000 < aim) = false := by simp; omega
  clear h
  go_enter Tryz.func52, Tryz.ntmps52
  go_wp2_with fail
  refine (V.out _).mono ?_
  rintro e w1 ⟨rfl, hb1⟩
  have G := Lib.hid ((Blk.new _ _ _).keep hb1)
  obtain ⟨c0, c1, _, _⟩ := blk2 G.out
  have hB1 := Lib.hid (below_then (below_alloc (Below.refl _ _) _) hb1)
  clear hb1
  have e9 : IntKind.i64.wrap (lo + x) = lo + x := IntWalk.i64_in _ (by omega)
  go_wp2
  go_region_held3 (fun w' => w'.cell? ⟨w.heap.size, 0, none⟩ = some (.int .i64 lo) ∧ w'.cell? ⟨w.heap.size, 1, none⟩ = some (.int .i64 hi)) (first | go_keep | (exact held2 (by assumption) hb)) (first | (go_at_call 75; refine (Wd.out _).mono ?_; rintro e w' ⟨rfl, hb⟩) | (go_at_call 53; refine (D.out _).mono ?_; rintro e w' ⟨rfl, n, rfl⟩))
  all_goals go_wp2
  all_goals go_ret2
  all_goals exact ⟨rfl, by repeat (with_reducible first | exact hB1.out | refine below_drew ?_ | refine below_drewN ?_ _ | refine below_then ?_ (by assumption))⟩

theorem rsteer_Check (c : Ck) (w : World) (a0 : 0 ≤ c.aim) (a1 : c.aim ≤ 1000) (r0 : 0 ≤ c.rate) (r1 : c.rate ≤ 1000000000) (ha : okT c.a = true) (hs : okT c.shown = true) :
    Calls Tryz.prog 50 #[.agg #[.int .i64 c.aim, .int .i64 c.rate, .bool c.set, .bool c.held, .int .i64 c.a, .int .i64 c.shown]] w fun e w' => e = .returned (.int .i64 0) ∧ Below w.heap.size w w' := by
  obtain ⟨aim, rate, set, held, a, shown⟩ := c
  dsimp only at *
  have A := Lib.hid fun W => rValid a W
  rw [ha] at A
  have S := Lib.hid fun W => rValid shown W
  rw [hs] at S
  clear ha hs
  have t1 : decide (aim < 0) = false := by simp; omega
  have t2 : decide (1000 < aim) = false := by simp; omega
  have t3 : decide (rate < 0) = false := by simp; omega
  have t4 : decide (1000000000 < rate) = false := by simp; omega
  go_enter Tryz.func50, Tryz.ntmps50
  go_wp2_with fail
  refine (A.out _).mono ?_
  rintro e w1 ⟨rfl, rfl⟩
  go_wp2_with fail
  refine (S.out _).mono ?_
  rintro e w1 ⟨rfl, rfl⟩
  go_wp2
  go_ret
  exact ⟨rfl, below_alloc (Below.refl _ _) _⟩
set_option maxHeartbeats 4000000 in
theorem rRead_first (c : Ck) (t lo hi : Int) (w : World) (hc : c.goodAt t) (hs : okS lo hi = true) (hset : c.set = false) :
    Calls Tryz.prog 26 #[.agg #[.int .i64 c.aim, .int .i64 c.rate, .bool c.set, .bool c.held, .int .i64 c.a, .int .i64 c.shown], .int .i64 t, .agg #[.int .i64 lo, .int .i64 hi]] w fun e w' =>
      e = .returned (.tuple #[.agg #[.int .i64 c.aim, .int .i64 c.rate, .bool true, .bool false, .int .i64 t, .int .i64 (target lo hi c.aim)], .int .i64 0]) ∧ Below w.heap.size w w' := by
  obtain ⟨a0, a1, r0, r1, ha, hsh, ht, ho⟩ := hc
  have C := Lib.hid fun W => rsteer_Check c W a0 a1 r0 r1 ha hsh
  have V := Lib.hid fun W => rS_valid lo hi W hs
  have T := Lib.hid fun W => rValid t W
  rw [ht] at T
  have G := Lib.hid fun W => rTarget_ok lo hi c.aim W hs a0 a1
  have sv := okS_iff.1 hs
  have av := okT_iff.1 ha
  have bv := okT_iff.1 hsh
  have cv := okT_iff.1 ht
  generalize target lo hi c.aim = tg at *
  obtain ⟨aim, rate, set, held, a, shown⟩ := c
  dsimp only at *
  subst hset
  clear ha hsh ht hs ho
  go_enter Tryz.func26, Tryz.ntmps26
  go_wp2_with fail
  refine (C.out _).mono ?_
  rintro e w1 ⟨rfl, hb1⟩
  have G0 := Lib.hid (((Blk.new _ _ _).alloc _).alloc _ |>.keep hb1)
  have G1 := Lib.hid ((Blk.new1 _ _ _ _).alloc _ |>.keep hb1)
  have G2 := Lib.hid ((Blk.new2 _ _ _ _ _).keep hb1)
  have hB1 := Lib.hid (below_then (below_alloc (below_alloc (below_alloc (Below.refl _ _) _) _) _) hb1)
  clear hb1
  obtain ⟨c0, c1, _, _⟩ := blk2 G1.out
  go_wp2_with fail
  refine (V.out _).mono ?_
  rintro e w2 ⟨rfl, hb2⟩
  have hB2 := Lib.hid (below_then hB1.out hb2)
  have K0 := Lib.hid (G0.out.keep hb2)
  have K1 := Lib.hid (G1.out.keep hb2)
  have K2 := Lib.hid (G2.out.keep hb2)
  clear hb2 hB1 c0 c1 G0 G1 G2
  obtain ⟨c0, c1, _, _⟩ := blk2 K1.out
  obtain ⟨k0, k1, k2, k3, k4, k5⟩ := blk6 K0.out
  go_wp2_with fail
  refine (T.out _).mono ?_
  rintro e w3 ⟨rfl, rfl⟩
  go_wp2_with fail
  refine (G.out _).mono ?_
  rintro e w4 ⟨rfl, hb4⟩
  have hB4 := Lib.hid (below_then hB2.out hb4)
  have L0 := Lib.hid (K0.out.keep hb4)
  have L1 := Lib.hid (K1.out.keep hb4)
  have L2 := Lib.hid (K2.out.keep hb4)
  clear hb4 hB2 c0 c1 k0 k1 k2 k3 k4 k5 K0 K1 K2
  obtain ⟨c0, c1, _, _⟩ := blk2 L1.out
  obtain ⟨k0, k1, k2, k3, k4, k5⟩ := blk6 L0.out
  obtain ⟨p0, p1, p2, p3, p4, p5⟩ := blk6 L2.out
  obtain ⟨q0, q1, q2, q3, q4, q5⟩ := frz6 L2.out
  have hz2 : w.heap.size + 2 < w4.heap.size := L2.out.lt
  have hz1 : w.heap.size + 1 < w4.heap.size := by omega
  have hz0 : w.heap.size < w4.heap.size := by omega
  clear L0 L1 L2
  go_wp2
  all_goals exact bodyPost_ret (v := .tuple #[.agg #[.int .i64 aim, .int .i64 rate, .bool true, .bool false, .int .i64 t, .int .i64 tg], .int .i64 0]) (by rw [results_cell_tmp Tryz.results26]; go_simp) rfl ⟨rfl, by repeat (with_reducible first | exact hB4.out | refine below_alloc ?_ _ | refine below_drew ?_ | refine below_drewN ?_ _ | refine below_set ?_ (by omega) _)⟩

set_option maxHeartbeats 4000000 in
theorem rRead_held (c : Ck) (t lo hi : Int) (w : World) (hc : c.goodAt t) (hs : okS lo hi = true) (hset : c.set = true) (hh : hi < c.shown) :
    Calls Tryz.prog 26 #[.agg #[.int .i64 c.aim, .int .i64 c.rate, .bool c.set, .bool c.held, .int .i64 c.a, .int .i64 c.shown], .int .i64 t, .agg #[.int .i64 lo, .int .i64 hi]] w fun e w' =>
      e = .returned (.tuple #[.agg #[.int .i64 c.aim, .int .i64 c.rate, .bool true, .bool true, .int .i64 t, .int .i64 c.shown], .int .i64 0]) ∧ Below w.heap.size w w' := by
  obtain ⟨a0, a1, r0, r1, ha, hsh, ht, ho⟩ := hc
  have C := Lib.hid fun W => rsteer_Check c W a0 a1 r0 r1 ha hsh
  have V := Lib.hid fun W => rS_valid lo hi W hs
  have T := Lib.hid fun W => rValid t W
  rw [ht] at T
  have G := Lib.hid fun W => rTarget_ok lo hi c.aim W hs a0 a1
  have sv := okS_iff.1 hs
  have av := okT_iff.1 ha
  have bv := okT_iff.1 hsh
  have cv := okT_iff.1 ht
  have ho' := ho hset
  have rl := rate_le (show 0 ≤ t - c.a by omega) r0 r1
  have D := Lib.hid fun W => share_rate (t - c.a) c.rate W (by omega) (by omega) r0 r1
  generalize (t - c.a) * c.rate / 1000000000 = q at *
  generalize target lo hi c.aim = tg at *
  obtain ⟨aim, rate, set, held, a, shown⟩ := c
  dsimp only at *
  subst hset
  clear ha hsh ht hs ho
  have t1 : decide (t < a) = false := by simp; omega
  have e8 : IntKind.i64.wrap (t - a) = t - a := IntWalk.i64_in _ (by omega)
  have e9 : IntKind.i64.wrap (shown + (t - a)) = shown + (t - a) := IntWalk.i64_in _ (by omega)
  have e10 : IntKind.i64.wrap (shown + (t - a) + q) = shown + (t - a) + q := IntWalk.i64_in _ (by omega)
  have t2 : decide (hi < shown) = true := by simp; omega
  go_enter Tryz.func26, Tryz.ntmps26
  go_wp2_with fail
  refine (C.out _).mono ?_
  rintro e w1 ⟨rfl, hb1⟩
  have G0 := Lib.hid (((Blk.new _ _ _).alloc _).alloc _ |>.keep hb1)
  have G1 := Lib.hid ((Blk.new1 _ _ _ _).alloc _ |>.keep hb1)
  have G2 := Lib.hid ((Blk.new2 _ _ _ _ _).keep hb1)
  have hB1 := Lib.hid (below_then (below_alloc (below_alloc (below_alloc (Below.refl _ _) _) _) _) hb1)
  clear hb1
  obtain ⟨c0, c1, _, _⟩ := blk2 G1.out
  go_wp2_with fail
  refine (V.out _).mono ?_
  rintro e w2 ⟨rfl, hb2⟩
  have hB2 := Lib.hid (below_then hB1.out hb2)
  have K0 := Lib.hid (G0.out.keep hb2)
  have K1 := Lib.hid (G1.out.keep hb2)
  have K2 := Lib.hid (G2.out.keep hb2)
  clear hb2 hB1 c0 c1 G0 G1 G2
  obtain ⟨c0, c1, _, _⟩ := blk2 K1.out
  obtain ⟨k0, k1, k2, k3, k4, k5⟩ := blk6 K0.out
  go_wp2_with fail
  refine (T.out _).mono ?_
  rintro e w3 ⟨rfl, rfl⟩
  go_wp2_with fail
  refine (G.out _).mono ?_
  rintro e w4 ⟨rfl, hb4⟩
  have hB4 := Lib.hid (below_then hB2.out hb4)
  have L0 := Lib.hid (K0.out.keep hb4)
  have L1 := Lib.hid (K1.out.keep hb4)
  have L2 := Lib.hid (K2.out.keep hb4)
  clear hb4 hB2 c0 c1 k0 k1 k2 k3 k4 k5 K0 K1 K2
  obtain ⟨c0, c1, _, _⟩ := blk2 L1.out
  obtain ⟨k0, k1, k2, k3, k4, k5⟩ := blk6 L0.out
  obtain ⟨p0, p1, p2, p3, p4, p5⟩ := blk6 L2.out
  obtain ⟨q0, q1, q2, q3, q4, q5⟩ := frz6 L2.out
  have hz2 : w.heap.size + 2 < w4.heap.size := L2.out.lt
  have hz1 : w.heap.size + 1 < w4.heap.size := by omega
  have hz0 : w.heap.size < w4.heap.size := by omega
  clear L0 L1 L2
  go_wp2
  all_goals exact bodyPost_ret (v := .tuple #[.agg #[.int .i64 aim, .int .i64 rate, .bool true, .bool true, .int .i64 t, .int .i64 shown], .int .i64 0]) (by rw [results_cell_tmp Tryz.results26]; go_simp) rfl ⟨rfl, by repeat (with_reducible first | exact hB4.out | refine below_alloc ?_ _ | refine below_drew ?_ | refine below_drewN ?_ _ | refine below_set ?_ (by omega) _)⟩

set_option maxHeartbeats 4000000 in
theorem rRead_free (c : Ck) (t lo hi : Int) (w : World) (hc : c.goodAt t) (hs : okS lo hi = true) (hset : c.set = true) (hh : ¬ hi < c.shown) :
    Calls Tryz.prog 26 #[.agg #[.int .i64 c.aim, .int .i64 c.rate, .bool c.set, .bool c.held, .int .i64 c.a, .int .i64 c.shown], .int .i64 t, .agg #[.int .i64 lo, .int .i64 hi]] w fun e w' =>
      e = .returned (.tuple #[.agg #[.int .i64 c.aim, .int .i64 c.rate, .bool true, .bool false, .int .i64 t, .int .i64 (max (max c.shown lo) (min (target lo hi c.aim) (min 1152921504606846976 (c.shown + (t - c.a) + (t - c.a) * c.rate / 1000000000))))], .int .i64 0]) ∧ Below w.heap.size w w' := by
  obtain ⟨a0, a1, r0, r1, ha, hsh, ht, ho⟩ := hc
  have C := Lib.hid fun W => rsteer_Check c W a0 a1 r0 r1 ha hsh
  have V := Lib.hid fun W => rS_valid lo hi W hs
  have T := Lib.hid fun W => rValid t W
  rw [ht] at T
  have G := Lib.hid fun W => rTarget_ok lo hi c.aim W hs a0 a1
  have sv := okS_iff.1 hs
  have av := okT_iff.1 ha
  have bv := okT_iff.1 hsh
  have cv := okT_iff.1 ht
  have ho' := ho hset
  have rl := rate_le (show 0 ≤ t - c.a by omega) r0 r1
  have D := Lib.hid fun W => share_rate (t - c.a) c.rate W (by omega) (by omega) r0 r1
  generalize (t - c.a) * c.rate / 1000000000 = q at *
  generalize target lo hi c.aim = tg at *
  obtain ⟨aim, rate, set, held, a, shown⟩ := c
  dsimp only at *
  subst hset
  clear ha hsh ht hs ho
  have t1 : decide (t < a) = false := by simp; omega
  have e8 : IntKind.i64.wrap (t - a) = t - a := IntWalk.i64_in _ (by omega)
  have e9 : IntKind.i64.wrap (shown + (t - a)) = shown + (t - a) := IntWalk.i64_in _ (by omega)
  have e10 : IntKind.i64.wrap (shown + (t - a) + q) = shown + (t - a) + q := IntWalk.i64_in _ (by omega)
  have t2 : decide (hi < shown) = false := by simp; omega
  have t2' : decide (shown > hi) = false := t2
  obtain ⟨z, hz⟩ : ∃ z, z = min tg (min 1152921504606846976 (shown + (t - a) + q)) := ⟨_, rfl⟩
  obtain ⟨r, hr⟩ : ∃ r, r = max (max shown lo) z := ⟨_, rfl⟩
  have e11 : (if (if shown < lo then lo else shown) < z then z else if shown < lo then lo else shown) = r := by
    rw [hr]; split <;> split <;> omega
  rw [← hz, ← hr]
  replace hz := hz.symm
  clear hr hh
  go_enter Tryz.func26, Tryz.ntmps26
  go_wp2_with fail
  refine (C.out _).mono ?_
  rintro e w1 ⟨rfl, hb1⟩
  have G0 := Lib.hid (((Blk.new _ _ _).alloc _).alloc _ |>.keep hb1)
  have G1 := Lib.hid ((Blk.new1 _ _ _ _).alloc _ |>.keep hb1)
  have G2 := Lib.hid ((Blk.new2 _ _ _ _ _).keep hb1)
  have hB1 := Lib.hid (below_then (below_alloc (below_alloc (below_alloc (Below.refl _ _) _) _) _) hb1)
  clear hb1
  obtain ⟨c0, c1, _, _⟩ := blk2 G1.out
  go_wp2_with fail
  refine (V.out _).mono ?_
  rintro e w2 ⟨rfl, hb2⟩
  have hB2 := Lib.hid (below_then hB1.out hb2)
  have K0 := Lib.hid (G0.out.keep hb2)
  have K1 := Lib.hid (G1.out.keep hb2)
  have K2 := Lib.hid (G2.out.keep hb2)
  clear hb2 hB1 c0 c1 G0 G1 G2
  obtain ⟨c0, c1, _, _⟩ := blk2 K1.out
  obtain ⟨k0, k1, k2, k3, k4, k5⟩ := blk6 K0.out
  go_wp2_with fail
  refine (T.out _).mono ?_
  rintro e w3 ⟨rfl, rfl⟩
  go_wp2_with fail
  refine (G.out _).mono ?_
  rintro e w4 ⟨rfl, hb4⟩
  have hB4 := Lib.hid (below_then hB2.out hb4)
  have L0 := Lib.hid (K0.out.keep hb4)
  have L1 := Lib.hid (K1.out.keep hb4)
  have L2 := Lib.hid (K2.out.keep hb4)
  clear hb4 hB2 c0 c1 k0 k1 k2 k3 k4 k5 K0 K1 K2
  obtain ⟨c0, c1, _, _⟩ := blk2 L1.out
  obtain ⟨k0, k1, k2, k3, k4, k5⟩ := blk6 L0.out
  obtain ⟨p0, p1, p2, p3, p4, p5⟩ := blk6 L2.out
  obtain ⟨q0, q1, q2, q3, q4, q5⟩ := frz6 L2.out
  have hz2 : w.heap.size + 2 < w4.heap.size := L2.out.lt
  have hz1 : w.heap.size + 1 < w4.heap.size := by omega
  have hz0 : w.heap.size < w4.heap.size := by omega
  clear L0 L1 L2
  go_wp2
  go_region_held3 (fun w' => w'.cell? ⟨w.heap.size, 5, none⟩ = some (.int .i64 shown) ∧ w'.cell? ⟨w.heap.size, 1, none⟩ = some (.int .i64 rate)) (first | go_keep) (first | (go_at_call 53; refine (D.out _).mono ?_; rintro e w' ⟨rfl, n, rfl⟩))
  all_goals go_wp2
  all_goals exact bodyPost_ret (v := .tuple #[.agg #[.int .i64 aim, .int .i64 rate, .bool true, .bool false, .int .i64 t, .int .i64 r], .int .i64 0]) (by rw [results_cell_tmp Tryz.results26]; go_simp) rfl ⟨rfl, by repeat (with_reducible first | exact hB4.out | refine below_alloc ?_ _ | refine below_drew ?_ | refine below_drewN ?_ _ | refine below_set ?_ (by omega) _)⟩

end Go.Proofs.YtnafhblioabkgaaGreat
