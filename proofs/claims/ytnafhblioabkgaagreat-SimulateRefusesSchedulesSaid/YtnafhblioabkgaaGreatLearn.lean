/- Learn: what the program's layer 37 answers, for what is known and in its ranges. -/
import Derived.Test.YtnafhblioabkgaaGreatSpan
import Derived.RegionTactic
import Derived.BigRegion
import Derived.ChangeAlike
namespace Go.Proofs.YtnafhblioabkgaaGreat
open Go.RowKit

set_option maxHeartbeats 2000000 in
theorem Learn_no (k : Kn) (t lo hi : Int) (w : World) (hk : k.goodAt t) (hs : okS lo hi = true) (hm : ¬ max (k.nowLo t) lo ≤ min (k.nowHi t) hi) :
    Calls Tryz.prog 61 #[.agg #[.int .i64 k.a, .int .i64 k.lo, .int .i64 k.hi, .int .i64 k.ppb, .int .i64 k.learnt, .int .i64 k.refused], .int .i64 t, .agg #[.int .i64 lo, .int .i64 hi]] w fun e w' =>
      e = .returned (.tuple #[.agg #[.int .i64 k.a, .int .i64 k.lo, .int .i64 k.hi, .int .i64 k.ppb, .int .i64 k.learnt, .int .i64 (min (k.refused + 1) 1152921504606846976)], .bool false, .int .i64 0]) ∧ Below w.heap.size w w' := by
  have N := Lib.hid fun W => Now_ok k t W hk
  have V := Lib.hid fun W => okS_valid lo hi W hs
  have M := Lib.hid fun W => Meet_no (k.nowLo t) (k.nowHi t) lo hi W hk.span hs hm
  have r0 := hk.g.r0
  have r1 := hk.g.r1
  clear hm hs hk
  generalize k.nowLo t = nl at *
  generalize k.nowHi t = nh at *
  obtain ⟨a, klo, khi, ppb, learnt, refused⟩ := k
  dsimp only at *
  go_enter Tryz.func61, Tryz.ntmps61
  go_wp2_with fail
  refine (N.out _).mono ?_
  rintro e w1 ⟨rfl, hb1⟩
  have G0 := Lib.hid (((Blk.new _ _ _).alloc _).alloc _ |>.keep hb1)
  have G1 := Lib.hid ((Blk.new1 _ _ _ _).alloc _ |>.keep hb1)
  have G2 := Lib.hid ((Blk.new2 _ _ _ _ _).keep hb1)
  have hB1 := Lib.hid (below_then (below_alloc (below_alloc (below_alloc (Below.refl _ _) _) _) _) hb1)
  have hz1 : w.heap.size + 2 < w1.heap.size := by have := hb1.size; simp at this; omega
  have hz11 : w.heap.size + 1 < w1.heap.size := by omega
  have hz10 : w.heap.size < w1.heap.size := by omega
  clear hb1
  obtain ⟨a0, a1, _, _⟩ := blk2 G1.out
  go_wp2_with fail
  refine (V.out _).mono ?_
  rintro e w2 ⟨rfl, hb2⟩
  have hB2 := Lib.hid (below_then (below_alloc hB1.out _) hb2)
  have K0 := Lib.hid ((G0.out.alloc _).keep hb2)
  have K1 := Lib.hid ((G1.out.alloc _).keep hb2)
  have K2 := Lib.hid ((G2.out.alloc _).keep hb2)
  have K3 := Lib.hid ((Blk.new w1 _ _).keep hb2)
  clear hb2 hB1 a0 a1 G0 G1 G2
  obtain ⟨b0, b1, _, _⟩ := blk2 K3.out
  obtain ⟨c0, c1, _, _⟩ := blk2 K1.out
  go_wp2_with fail
  refine (M.out _).mono ?_
  rintro e w3 ⟨rfl, hb3⟩
  have hB3 := Lib.hid (below_then hB2.out hb3)
  obtain ⟨d0, d1, d2, d3, d4, d5⟩ := blk6 (K0.out.keep hb3)
  obtain ⟨f0, f1, f2, f3, f4, f5⟩ := frz6 (K0.out.keep hb3)
  obtain ⟨p0, p1, p2, p3, p4, p5⟩ := blk6 (K2.out.keep hb3)
  obtain ⟨q0, q1, q2, q3, q4, q5⟩ := frz6 (K2.out.keep hb3)
  have hz3 : w.heap.size + 2 < w3.heap.size := by have := hB3.out.size; have := K2.out.lt; have := hb3.size; omega
  have hz31 : w.heap.size + 1 < w3.heap.size := by omega
  have hz30 : w.heap.size < w3.heap.size := by omega
  clear hb3 hB2 b0 b1 c0 c1 K0 K1 K2 K3
  go_wp2
  exact bodyPost_ret (v := .tuple #[.agg #[.int .i64 a, .int .i64 klo, .int .i64 khi, .int .i64 ppb, .int .i64 learnt, .int .i64 (min (refused + 1) 1152921504606846976)], .bool false, .int .i64 0]) (by rw [results_cell_tmp_tmp Tryz.results61]; go_simp) rfl ⟨rfl, by repeat (with_reducible first | exact hB3.out | refine below_alloc ?_ _ | refine below_set ?_ (by omega) _)⟩

set_option maxHeartbeats 2000000 in
theorem Learn_yes (k : Kn) (t lo hi : Int) (w : World) (hk : k.goodAt t) (hs : okS lo hi = true) (hm : max (k.nowLo t) lo ≤ min (k.nowHi t) hi) :
    Calls Tryz.prog 61 #[.agg #[.int .i64 k.a, .int .i64 k.lo, .int .i64 k.hi, .int .i64 k.ppb, .int .i64 k.learnt, .int .i64 k.refused], .int .i64 t, .agg #[.int .i64 lo, .int .i64 hi]] w fun e w' =>
      e = .returned (.tuple #[.agg #[.int .i64 t, .int .i64 (max (k.nowLo t) lo), .int .i64 (min (k.nowHi t) hi), .int .i64 k.ppb, .int .i64 (min (k.learnt + 1) 1152921504606846976), .int .i64 k.refused], .bool true, .int .i64 0]) ∧ Below w.heap.size w w' := by
  have N := Lib.hid fun W => Now_ok k t W hk
  have V := Lib.hid fun W => okS_valid lo hi W hs
  have M := Lib.hid fun W => Meet_yes (k.nowLo t) (k.nowHi t) lo hi W hk.span hs hm
  have r0 := hk.g.l0
  have r1 := hk.g.l1
  clear hm hs hk
  generalize k.nowLo t = nl at *
  generalize k.nowHi t = nh at *
  generalize max nl lo = ml at *
  generalize min nh hi = mh at *
  obtain ⟨a, klo, khi, ppb, learnt, refused⟩ := k
  dsimp only at *
  go_enter Tryz.func61, Tryz.ntmps61
  go_wp2_with fail
  refine (N.out _).mono ?_
  rintro e w1 ⟨rfl, hb1⟩
  have G0 := Lib.hid (((Blk.new _ _ _).alloc _).alloc _ |>.keep hb1)
  have G1 := Lib.hid ((Blk.new1 _ _ _ _).alloc _ |>.keep hb1)
  have G2 := Lib.hid ((Blk.new2 _ _ _ _ _).keep hb1)
  have hB1 := Lib.hid (below_then (below_alloc (below_alloc (below_alloc (Below.refl _ _) _) _) _) hb1)
  have hz1 : w.heap.size + 2 < w1.heap.size := by have := hb1.size; simp at this; omega
  have hz11 : w.heap.size + 1 < w1.heap.size := by omega
  have hz10 : w.heap.size < w1.heap.size := by omega
  clear hb1
  obtain ⟨a0, a1, _, _⟩ := blk2 G1.out
  go_wp2_with fail
  refine (V.out _).mono ?_
  rintro e w2 ⟨rfl, hb2⟩
  have hB2 := Lib.hid (below_then (below_alloc hB1.out _) hb2)
  have K0 := Lib.hid ((G0.out.alloc _).keep hb2)
  have K1 := Lib.hid ((G1.out.alloc _).keep hb2)
  have K2 := Lib.hid ((G2.out.alloc _).keep hb2)
  have K3 := Lib.hid ((Blk.new w1 _ _).keep hb2)
  clear hb2 hB1 a0 a1 G0 G1 G2
  obtain ⟨b0, b1, _, _⟩ := blk2 K3.out
  obtain ⟨c0, c1, _, _⟩ := blk2 K1.out
  go_wp2_with fail
  refine (M.out _).mono ?_
  rintro e w3 ⟨rfl, hb3⟩
  have hB3 := Lib.hid (below_then hB2.out hb3)
  obtain ⟨d0, d1, d2, d3, d4, d5⟩ := blk6 (K0.out.keep hb3)
  obtain ⟨f0, f1, f2, f3, f4, f5⟩ := frz6 (K0.out.keep hb3)
  obtain ⟨p0, p1, p2, p3, p4, p5⟩ := blk6 (K2.out.keep hb3)
  obtain ⟨q0, q1, q2, q3, q4, q5⟩ := frz6 (K2.out.keep hb3)
  have hz3 : w.heap.size + 2 < w3.heap.size := by have := hB3.out.size; have := K2.out.lt; have := hb3.size; omega
  have hz31 : w.heap.size + 1 < w3.heap.size := by omega
  have hz30 : w.heap.size < w3.heap.size := by omega
  clear hb3 hB2 b0 b1 c0 c1 K0 K1 K2 K3
  go_wp2
  go_region
  all_goals
    go_wp2
    exact bodyPost_ret (v := .tuple #[.agg #[.int .i64 t, .int .i64 ml, .int .i64 mh, .int .i64 ppb, .int .i64 (min (learnt + 1) 1152921504606846976), .int .i64 refused], .bool true, .int .i64 0]) (by rw [results_cell_tmp_tmp Tryz.results61]; go_simp) rfl ⟨rfl, by repeat (with_reducible first | exact hB3.out | refine below_alloc ?_ _ | refine below_drew ?_ | refine below_set ?_ (by omega) _)⟩
end Go.Proofs.YtnafhblioabkgaaGreat
