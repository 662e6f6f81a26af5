/- The player: what the client reports. -/
import Derived.Test.YtnafhblioabkgaaGreatMind
import Derived.Test.YtnafhblioabkgaaGreatRead
import Derived.Deep.RegionWith
namespace Go.Proofs.YtnafhblioabkgaaGreat
open Go.RowKit

theorem Read_ok (c : Ck) (t lo hi : Int) (w : World) (hc : c.goodAt t) (hs : okS lo hi = true) :
    Calls Tryz.prog 64 #[.agg #[.int .i64 c.aim, .int .i64 c.rate, .bool c.set, .bool c.held, .int .i64 c.a, .int .i64 c.shown], .int .i64 t, .agg #[.int .i64 lo, .int .i64 hi]] w fun e w' =>
      e = .returned (.tuple #[.agg #[.int .i64 (c.read t lo hi).aim, .int .i64 (c.read t lo hi).rate, .bool (c.read t lo hi).set, .bool (c.read t lo hi).held, .int .i64 (c.read t lo hi).a, .int .i64 (c.read t lo hi).shown], .int .i64 0]) ∧ Below w.heap.size w w' := by
  unfold Ck.read
  cases hset : c.set
  · have := Read_first c t lo hi w hc hs hset
    rw [hset] at this
    exact this
  · by_cases hh : hi < c.shown
    · have := Read_held c t lo hi w hc hs hset hh
      rw [hset] at this
      simp only [hh, if_true]
      exact this
    · have := Read_free c t lo hi w hc hs hset hh
      rw [hset] at this
      simp only [hh, if_false, if_true]
      exact this
theorem held7 {w w' : World} {p0 p1 p2 p3 p4 p5 p6 : Addr} {x0 x1 x2 x3 x4 x5 x6 : Value} (h : w.cell? p0 = some x0 ∧ w.cell? p1 = some x1 ∧ w.cell? p2 = some x2 ∧ w.cell? p3 = some x3 ∧ w.cell? p4 = some x4 ∧ w.cell? p5 = some x5 ∧ w.cell? p6 = some x6) (hb : Below w.heap.size w w') : w'.cell? p0 = some x0 ∧ w'.cell? p1 = some x1 ∧ w'.cell? p2 = some x2 ∧ w'.cell? p3 = some x3 ∧ w'.cell? p4 = some x4 ∧ w'.cell? p5 = some x5 ∧ w'.cell? p6 = some x6 := ⟨cell_keep hb h.1, cell_keep hb h.2.1, cell_keep hb h.2.2.1, cell_keep hb h.2.2.2.1, cell_keep hb h.2.2.2.2.1, cell_keep hb h.2.2.2.2.2.1, cell_keep hb h.2.2.2.2.2.2⟩
abbrev vRp (r : Rp) : Value := .agg #[.int .i64 r.loc, .int .i64 r.tru, .bool r.some, .int .i64 r.lo, .int .i64 r.hi, .int .i64 r.ck.aim, .int .i64 r.ck.rate, .bool r.ck.set, .bool r.ck.held, .int .i64 r.ck.a, .int .i64 r.ck.shown]
theorem frz11 {w : World} {g : Nat} {t : TypeId} {a b c d e f g1 h i j k : Value} (h' : Blk w g t #[a, b, c, d, e, f, g1, h, i, j, k]) : w.frozen? ⟨g, 0, none⟩ = false ∧ w.frozen? ⟨g, 1, none⟩ = false ∧ w.frozen? ⟨g, 2, none⟩ = false ∧ w.frozen? ⟨g, 3, none⟩ = false ∧ w.frozen? ⟨g, 4, none⟩ = false ∧ w.frozen? ⟨g, 5, none⟩ = false ∧ w.frozen? ⟨g, 6, none⟩ = false ∧ w.frozen? ⟨g, 7, none⟩ = false ∧ w.frozen? ⟨g, 8, none⟩ = false ∧ w.frozen? ⟨g, 9, none⟩ = false ∧ w.frozen? ⟨g, 10, none⟩ = false :=
  ⟨h'.frozen 0, h'.frozen 1, h'.frozen 2, h'.frozen 3, h'.frozen 4, h'.frozen 5, h'.frozen 6, h'.frozen 7, h'.frozen 8, h'.frozen 9, h'.frozen 10⟩

set_option maxHeartbeats 4000000 in
set_option maxRecDepth 100000 in
theorem report_ok (s : Sch) (A A' : Option Addr) (c c' : Nat) (sv : Value) (q : Pl) (g : Nat) (T : TypeId) (w : World) (j : Nat) (hj : j ≤ 64) (hs : s.ok) (hq : q.good s j)
    (hb : Blk w g T (plC s A c A' c' sv q).toArray) :
    Calls Tryz.prog 35 #[.pointer (some ⟨g, 0, none⟩)] w fun e w' => e = .returned (vRp q.seen.rp) ∧ Blk w' g T (plC s A c A' c' sv q.seen).toArray ∧ Only g g w w' := by
  have hg := hb.lt
  obtain ⟨W, hW⟩ : ∃ W, W = w.alloc (.cells #[.int .i64 0, .int .i64 0, .bool false, .int .i64 0, .int .i64 0, .int .i64 0, .int .i64 0, .bool false, .bool false, .int .i64 0, .int .i64 0] 55) := ⟨_, rfl⟩
  have BW : Below w.heap.size w W := by rw [hW]; exact below_alloc (Below.refl _ _) _
  have hsW : W.heap.size = w.heap.size + 1 := by rw [hW]; simp
  have HW := Lib.hid (hb.keep BW)
  have OW := Lib.hid (show Only g g w W from .of BW)
  have R0 := Lib.hid (show Blk W w.heap.size 55 #[.int .i64 0, .int .i64 0, .bool false, .int .i64 0, .int .i64 0, .int .i64 0, .int .i64 0, .bool false, .bool false, .int .i64 0, .int .i64 0] by rw [hW]; exact Blk.new _ _ _)
  have k8 : W.cell? ⟨g, 8, none⟩ = some (.int .i64 q.r) := HW.out.list_cell 8
  have k7 : W.cell? ⟨g, 7, none⟩ = some (.int .i64 q.t) := HW.out.list_cell 7
  have n5 := World.new_ne W _ k8
  dsimp only at n5
  have n9 : w.heap.size + 1 ≠ g := by omega
  clear hb BW
  cases ho : q.own with
  | none =>
    have hseen : q.seen = q := by unfold Pl.seen; rw [ho]
    have hrp : q.rp = ⟨q.r, q.t, false, 0, 0, ⟨0, 0, false, false, 0, 0⟩⟩ := by unfold Pl.rp; rw [ho]
    rw [hseen, hrp]
    have k10 : W.cell? ⟨g, 10, none⟩ = some (.bool false) := by
      have := HW.out.list_cell 10
      unfold plC at this
      rw [ho] at this
      exact this
    clear hseen hrp hq
    go_enter Tryz.func35, Tryz.ntmps35
    go_wp2_with fail
    rw [← hW]
    clear hW
    go_region_held3 (fun w' => w'.cell? ⟨g, 8, none⟩ = some (.int .i64 q.r) ∧ w'.cell? ⟨g, 7, none⟩ = some (.int .i64 q.t) ∧ w'.cell? ⟨g, 10, none⟩ = some (.bool false)) (go_keep) (fail)
    generalize hW2 : (W.alloc (.cells #[.int .i64 q.r, .int .i64 q.t, .bool false, .int .i64 0, .int .i64 0, .int .i64 0, .int .i64 0, .bool false, .bool false, .int .i64 0, .int .i64 0] 55)).drew = W2
    have B2 : Below W.heap.size W W2 := by rw [← hW2]; exact below_drew (below_alloc (Below.refl _ _) _)
    have H2 := Lib.hid (HW.out.keep B2)
    have R2 := Lib.hid (R0.out.keep B2)
    have O2 := Lib.hid (OW.out.then B2)
    have S2 := Lib.hid (show Blk W2 (w.heap.size + 1) 55 #[.int .i64 q.r, .int .i64 q.t, .bool false, .int .i64 0, .int .i64 0, .int .i64 0, .int .i64 0, .bool false, .bool false, .int .i64 0, .int .i64 0] by rw [← hW2, ← hsW]; exact (Blk.new _ _ _).drew)
    replace k10 := cell_keep B2 k10
    clear hW2 B2 HW R0 OW k8 k7
    obtain ⟨x0, x1, x2, x3, x4, x5, x6, x7, x8, x9, x10⟩ := blk11 S2.out
    obtain ⟨y0, y1, y2, y3, y4, y5, y6, y7, y8, y9, y10⟩ := blk11 R2.out
    obtain ⟨f0, f1, f2, f3, f4, f5, f6, f7, f8, f9, f10⟩ := frz11 R2.out
    have hz1 : w.heap.size < W2.heap.size := R2.out.lt
    have hz2 : w.heap.size + 1 < W2.heap.size := S2.out.lt
    have hz3 : g < W2.heap.size := H2.out.lt
    have F : g ≠ w.heap.size := by omega
    clear hsW
    go_wp2
    exact bodyPost_ret (v := .agg #[.int .i64 q.r, .int .i64 q.t, .bool false, .int .i64 0, .int .i64 0, .int .i64 0, .int .i64 0, .bool false, .bool false, .int .i64 0, .int .i64 0]) (by rw [results_cell Tryz.results35]; go_simp) rfl ⟨rfl, (((((((((((H2.out.far (p := ⟨_, _, _⟩) F _).far (p := ⟨_, _, _⟩) F _).far (p := ⟨_, _, _⟩) F _).far (p := ⟨_, _, _⟩) F _).far (p := ⟨_, _, _⟩) F _).far (p := ⟨_, _, _⟩) F _).far (p := ⟨_, _, _⟩) F _).far (p := ⟨_, _, _⟩) F _).far (p := ⟨_, _, _⟩) F _).far (p := ⟨_, _, _⟩) F _).far (p := ⟨_, _, _⟩) F _), (by repeat (with_reducible first | exact O2.out | refine Only.setNew ?_ (by omega) _))⟩
  | some k =>
    have hkb := (hq.own k ho).at hs.p0 hs.p1 (Int.le_refl _) (Int.le_refl _) (by have := hq.r1; omega)
    have hseen : q.seen = { q with ck := q.ck.read q.r (k.nowLo q.r) (k.nowHi q.r) } := by unfold Pl.seen; rw [ho]
    have hrp : ({ q with ck := q.ck.read q.r (k.nowLo q.r) (k.nowHi q.r) } : Pl).rp = ⟨q.r, q.t, true, k.nowLo q.r, k.nowHi q.r, q.ck.read q.r (k.nowLo q.r) (k.nowHi q.r)⟩ := by unfold Pl.rp; dsimp only; rw [ho]
    rw [hseen, hrp]
    have N := Lib.hid fun W => Now_ok k q.r W hkb.1
    have RD := Lib.hid fun W => Read_ok q.ck q.r (k.nowLo q.r) (k.nowHi q.r) W (hq.ck hs hj) hkb.1.span
    clear hseen hrp hq hkb
    generalize q.ck.read q.r (k.nowLo q.r) (k.nowHi q.r) = ck' at *
    generalize k.nowLo q.r = nl at *
    generalize k.nowHi q.r = nh at *
    have hpl := Lib.hid (show plC s A c A' c' sv q = [.int .i64 s.start, .int .i64 s.loc, .int .i64 s.ppb, .int .i64 s.liars, .int .i64 s.aim, .slice A s.errs.length c, .slice A' s.steps.length c', .int .i64 q.t, .int .i64 q.r, sv] ++ (encKw (some k) ++ [.int .i64 q.ck.aim, .int .i64 q.ck.rate, .bool q.ck.set, .bool q.ck.held, .int .i64 q.ck.a, .int .i64 q.ck.shown]) by unfold plC; rw [ho])
    have HW' := HW.out
    rw [hpl.out] at HW'
    have k10 : W.cell? ⟨g, 10, none⟩ = some (.bool true) := HW'.list_cell 10
    have b1 : W.cell? ⟨g, 11, none⟩ = some (.int .i64 k.a) := HW'.list_cell 11
    have b2 : W.cell? ⟨g, 12, none⟩ = some (.int .i64 k.lo) := HW'.list_cell 12
    have b3 : W.cell? ⟨g, 13, none⟩ = some (.int .i64 k.hi) := HW'.list_cell 13
    have b4 : W.cell? ⟨g, 14, none⟩ = some (.int .i64 k.ppb) := HW'.list_cell 14
    have b5 : W.cell? ⟨g, 15, none⟩ = some (.int .i64 k.learnt) := HW'.list_cell 15
    have b6 : W.cell? ⟨g, 16, none⟩ = some (.int .i64 k.refused) := HW'.list_cell 16
    clear HW'
    go_enter Tryz.func35, Tryz.ntmps35
    go_wp2_with fail
    rw [← hW]
    clear hW
    go_region_held3 (fun w' => w'.cell? ⟨g, 8, none⟩ = some (.int .i64 q.r) ∧ w'.cell? ⟨g, 7, none⟩ = some (.int .i64 q.t) ∧ w'.cell? ⟨g, 10, none⟩ = some (.bool true)) (go_keep) (fail)
    generalize hW2 : (W.alloc (.cells #[.int .i64 q.r, .int .i64 q.t, .bool true, .int .i64 0, .int .i64 0, .int .i64 0, .int .i64 0, .bool false, .bool false, .int .i64 0, .int .i64 0] 55)).drew = W2
    have B2 : Below W.heap.size W W2 := by rw [← hW2]; exact below_drew (below_alloc (Below.refl _ _) _)
    have H2 := Lib.hid (HW.out.keep B2)
    have R2 := Lib.hid (R0.out.keep B2)
    have O2 := Lib.hid (OW.out.then B2)
    have S2 := Lib.hid (show Blk W2 (w.heap.size + 1) 55 #[.int .i64 q.r, .int .i64 q.t, .bool true, .int .i64 0, .int .i64 0, .int .i64 0, .int .i64 0, .bool false, .bool false, .int .i64 0, .int .i64 0] by rw [← hW2, ← hsW]; exact (Blk.new _ _ _).drew)
    replace k10 := cell_keep B2 k10
    have HS := Lib.hid (show W2.cell? ⟨g, 11, none⟩ = some (.int .i64 k.a) ∧ W2.cell? ⟨g, 12, none⟩ = some (.int .i64 k.lo) ∧ W2.cell? ⟨g, 13, none⟩ = some (.int .i64 k.hi) ∧ W2.cell? ⟨g, 14, none⟩ = some (.int .i64 k.ppb) ∧ W2.cell? ⟨g, 15, none⟩ = some (.int .i64 k.learnt) ∧ W2.cell? ⟨g, 16, none⟩ = some (.int .i64 k.refused) ∧ W2.cell? ⟨g, 8, none⟩ = some (.int .i64 q.r) from ⟨cell_keep B2 b1, cell_keep B2 b2, cell_keep B2 b3, cell_keep B2 b4, cell_keep B2 b5, cell_keep B2 b6, cell_keep B2 k8⟩)
    obtain ⟨c1, c2, c3, c4, c5, c6, c8⟩ := HS.out
    clear hW2 B2 HW R0 OW k8 k7 b1 b2 b3 b4 b5 b6
    go_wp2_with fail
    go_region_held3 (fun w' => w'.cell? ⟨g, 11, none⟩ = some (.int .i64 k.a) ∧ w'.cell? ⟨g, 12, none⟩ = some (.int .i64 k.lo) ∧ w'.cell? ⟨g, 13, none⟩ = some (.int .i64 k.hi) ∧ w'.cell? ⟨g, 14, none⟩ = some (.int .i64 k.ppb) ∧ w'.cell? ⟨g, 15, none⟩ = some (.int .i64 k.learnt) ∧ w'.cell? ⟨g, 16, none⟩ = some (.int .i64 k.refused) ∧ w'.cell? ⟨g, 8, none⟩ = some (.int .i64 q.r)) (first | (exact held7 HS.out hB) | go_keep) (first | (go_at_call 63; refine (N.out W2.drew).mono ?_; rintro e w1 ⟨rfl, hb⟩; have hB := below_then (below_drew (Below.refl _ _)) hb; have hS1 := held7 HS.out hB; have S3 := S2.out.keep hB; obtain ⟨x0, x1, x2, x3, x4, x5, x6, x7, x8, x9, x10⟩ := blk11 S3; obtain ⟨f0, f1, f2, f3, f4, f5, f6, f7, f8, f9, f10⟩ := frz11 S3; replace S3 := Lib.hid S3))
    generalize hW3 : ((w1.setCell ⟨w.heap.size + 1, 3, none⟩ (.int .i64 nl)).setCell ⟨w.heap.size + 1, 4, none⟩ (.int .i64 nh)) = W3
    have F1 : g ≠ w.heap.size + 1 := Ne.symm n9
    have F0 : w.heap.size ≠ w.heap.size + 1 := by omega
    have H3 := Lib.hid (show Blk W3 g T _ by rw [← hW3]; exact ((H2.out.keep hB).far (p := ⟨_, _, _⟩) F1 _).far (p := ⟨_, _, _⟩) F1 _)
    have R3 := Lib.hid (show Blk W3 w.heap.size 55 _ by rw [← hW3]; exact ((R2.out.keep hB).far (p := ⟨_, _, _⟩) F0 _).far (p := ⟨_, _, _⟩) F0 _)
    have S4 := Lib.hid (show Blk W3 (w.heap.size + 1) 55 #[.int .i64 q.r, .int .i64 q.t, .bool true, .int .i64 nl, .int .i64 nh, .int .i64 0, .int .i64 0, .bool false, .bool false, .int .i64 0, .int .i64 0] by rw [← hW3]; exact (S3.out.set 3 _).set 4 _)
    have O3 := Lib.hid (show Only g g w W3 by rw [← hW3]; exact ((O2.out.then hB).setNew (by omega) _).setNew (by omega) _)
    clear hW3 hb hB S3 S2 H2 R2 O2 x0 x1 x2 x3 x4 x5 x6 x7 x8 x9 x10 f0 f1 f2 f3 f4 f5 f6 f7 f8 f9 f10 hS1 c1 c2 c3 c4 c5 c6 c8 HS k10
    obtain ⟨x0, x1, x2, x3, x4, x5, x6, x7, x8, x9, x10⟩ := blk11 S4.out
    have d8 : W3.cell? ⟨g, 8, none⟩ = some (.int .i64 q.r) := H3.out.list_cell 8
    have H3' := H3.out
    rw [hpl.out] at H3'
    have d1 : W3.cell? ⟨g, 17, none⟩ = some (.int .i64 q.ck.aim) := H3'.list_cell 17
    have d2 : W3.cell? ⟨g, 18, none⟩ = some (.int .i64 q.ck.rate) := H3'.list_cell 18
    have d3 : W3.cell? ⟨g, 19, none⟩ = some (.bool q.ck.set) := H3'.list_cell 19
    have d4 : W3.cell? ⟨g, 20, none⟩ = some (.bool q.ck.held) := H3'.list_cell 20
    have d5 : W3.cell? ⟨g, 21, none⟩ = some (.int .i64 q.ck.a) := H3'.list_cell 21
    have d6 : W3.cell? ⟨g, 22, none⟩ = some (.int .i64 q.ck.shown) := H3'.list_cell 22
    clear H3'
    go_wp2_with fail
    have hpl' := Lib.hid (show plC s A c A' c' sv { q with ck := ck' } = [.int .i64 s.start, .int .i64 s.loc, .int .i64 s.ppb, .int .i64 s.liars, .int .i64 s.aim, .slice A s.errs.length c, .slice A' s.steps.length c', .int .i64 q.t, .int .i64 q.r, sv] ++ (encKw (some k) ++ [.int .i64 ck'.aim, .int .i64 ck'.rate, .bool ck'.set, .bool ck'.held, .int .i64 ck'.a, .int .i64 ck'.shown]) by unfold plC; dsimp only; rw [ho])
    have G0 : w.heap.size ≠ g := by omega
    have G1 : g ≠ w.heap.size := by omega
    have HC := Lib.hid fun (w1 : World) (hB : Below W3.heap.size W3 w1) => (show (w1.cell? ⟨g, 17, none⟩ = some (.int .i64 q.ck.aim) ∧ w1.cell? ⟨g, 18, none⟩ = some (.int .i64 q.ck.rate) ∧ w1.cell? ⟨g, 19, none⟩ = some (.bool q.ck.set) ∧ w1.cell? ⟨g, 20, none⟩ = some (.bool q.ck.held) ∧ w1.cell? ⟨g, 21, none⟩ = some (.int .i64 q.ck.a) ∧ w1.cell? ⟨g, 22, none⟩ = some (.int .i64 q.ck.shown)) ∧ (w1.frozen? ⟨g, 17, none⟩ = false ∧ w1.frozen? ⟨g, 18, none⟩ = false ∧ w1.frozen? ⟨g, 19, none⟩ = false ∧ w1.frozen? ⟨g, 20, none⟩ = false ∧ w1.frozen? ⟨g, 21, none⟩ = false ∧ w1.frozen? ⟨g, 22, none⟩ = false) from ⟨⟨cell_keep hB d1, cell_keep hB d2, cell_keep hB d3, cell_keep hB d4, cell_keep hB d5, cell_keep hB d6⟩, (H3.out.keep hB).frozen _, (H3.out.keep hB).frozen _, (H3.out.keep hB).frozen _, (H3.out.keep hB).frozen _, (H3.out.keep hB).frozen _, (H3.out.keep hB).frozen _⟩)
    go_region_with (go_at_call 64; refine (RD.out W3.drew).mono ?_; rintro e w1 ⟨rfl, hb⟩; have hB := below_then (below_drew (Below.refl _ _)) hb; obtain ⟨⟨z1, z2, z3, z4, z5, z6⟩, v1, v2, v3, v4, v5, v6⟩ := HC.out w1 hB)
    all_goals
      generalize hW4 : ((((((w1.setCell ⟨g, 17, none⟩ (.int .i64 ck'.aim)).setCell ⟨g, 18, none⟩ (.int .i64 ck'.rate)).setCell ⟨g, 19, none⟩ (.bool ck'.set)).setCell ⟨g, 20, none⟩ (.bool ck'.held)).setCell ⟨g, 21, none⟩ (.int .i64 ck'.a)).setCell ⟨g, 22, none⟩ (.int .i64 ck'.shown)) = W4
      have HH : Blk w1 g T (([.int .i64 s.start, .int .i64 s.loc, .int .i64 s.ppb, .int .i64 s.liars, .int .i64 s.aim, .slice A s.errs.length c, .slice A' s.steps.length c', .int .i64 q.t, .int .i64 q.r, sv] ++ (encKw (some k) ++ [.int .i64 q.ck.aim, .int .i64 q.ck.rate, .bool q.ck.set, .bool q.ck.held, .int .i64 q.ck.a, .int .i64 q.ck.shown]) : List Value)).toArray := by
        have := H3.out.keep hB
        rw [hpl.out] at this
        exact this
      have HH4 : Blk W4 g T (([.int .i64 s.start, .int .i64 s.loc, .int .i64 s.ppb, .int .i64 s.liars, .int .i64 s.aim, .slice A s.errs.length c, .slice A' s.steps.length c', .int .i64 q.t, .int .i64 q.r, sv] ++ (encKw (some k) ++ [.int .i64 ck'.aim, .int .i64 ck'.rate, .bool ck'.set, .bool ck'.held, .int .i64 ck'.a, .int .i64 ck'.shown]) : List Value)).toArray := by rw [← hW4]; exact ((((((HH.list_set 17 _).list_set 18 _).list_set 19 _).list_set 20 _).list_set 21 _).list_set 22 _)
      have H4 := Lib.hid (show Blk W4 g T (plC s A c A' c' sv { q with ck := ck' }).toArray by rw [hpl'.out]; exact HH4)
      have R4 := Lib.hid (show Blk W4 w.heap.size _ _ by rw [← hW4]; exact (((((((R3.out.keep hB).far (p := ⟨_, _, _⟩) G0 _).far (p := ⟨_, _, _⟩) G0 _).far (p := ⟨_, _, _⟩) G0 _).far (p := ⟨_, _, _⟩) G0 _).far (p := ⟨_, _, _⟩) G0 _).far (p := ⟨_, _, _⟩) G0 _))
      have S5 := Lib.hid (show Blk W4 (w.heap.size + 1) _ _ by rw [← hW4]; exact (((((((S4.out.keep hB).far (p := ⟨_, _, _⟩) n9 _).far (p := ⟨_, _, _⟩) n9 _).far (p := ⟨_, _, _⟩) n9 _).far (p := ⟨_, _, _⟩) n9 _).far (p := ⟨_, _, _⟩) n9 _).far (p := ⟨_, _, _⟩) n9 _))
      have O4 := Lib.hid (show Only g g w W4 by rw [← hW4]; exact (((((((O3.out.then hB).set (Or.inl rfl) _).set (Or.inl rfl) _).set (Or.inl rfl) _).set (Or.inl rfl) _).set (Or.inl rfl) _).set (Or.inl rfl) _))
      have d1 : W4.cell? ⟨g, 17, none⟩ = some (.int .i64 ck'.aim) := HH4.list_cell 17
      have d2 : W4.cell? ⟨g, 18, none⟩ = some (.int .i64 ck'.rate) := HH4.list_cell 18
      have d3 : W4.cell? ⟨g, 19, none⟩ = some (.bool ck'.set) := HH4.list_cell 19
      have d4 : W4.cell? ⟨g, 20, none⟩ = some (.bool ck'.held) := HH4.list_cell 20
      have d5 : W4.cell? ⟨g, 21, none⟩ = some (.int .i64 ck'.a) := HH4.list_cell 21
      have d6 : W4.cell? ⟨g, 22, none⟩ = some (.int .i64 ck'.shown) := HH4.list_cell 22
      clear hW4 HH HH4 hB hb z1 z2 z3 z4 z5 z6 v1 v2 v3 v4 v5 v6 d8
      clear x0 x1 x2 x3 x4 x5 x6 x7 x8 x9 x10
      obtain ⟨x0, x1, x2, x3, x4, x5, x6, x7, x8, x9, x10⟩ := blk11 S5.out
      obtain ⟨f0, f1, f2, f3, f4, f5, f6, f7, f8, f9, f10⟩ := frz11 S5.out
      obtain ⟨y0, y1, y2, y3, y4, y5, y6, y7, y8, y9, y10⟩ := blk11 R4.out
      obtain ⟨e0, e1, e2, e3, e4, e5, e6, e7, e8, e9, e10⟩ := frz11 R4.out
      have hz1 : w.heap.size < W4.heap.size := R4.out.lt
      have hz2 : w.heap.size + 1 < W4.heap.size := S5.out.lt
      have hz3 : g < W4.heap.size := H4.out.lt
      go_wp2
      exact bodyPost_ret (v := .agg #[.int .i64 q.r, .int .i64 q.t, .bool true, .int .i64 nl, .int .i64 nh, .int .i64 ck'.aim, .int .i64 ck'.rate, .bool ck'.set, .bool ck'.held, .int .i64 ck'.a, .int .i64 ck'.shown]) (by rw [results_cell Tryz.results35]; go_simp) rfl ⟨rfl, (((((((((((((((((H4.out.far (p := ⟨_, _, _⟩) F1 _).far (p := ⟨_, _, _⟩) F1 _).far (p := ⟨_, _, _⟩) F1 _).far (p := ⟨_, _, _⟩) F1 _).far (p := ⟨_, _, _⟩) F1 _).far (p := ⟨_, _, _⟩) F1 _).far (p := ⟨_, _, _⟩) G1 _).far (p := ⟨_, _, _⟩) G1 _).far (p := ⟨_, _, _⟩) G1 _).far (p := ⟨_, _, _⟩) G1 _).far (p := ⟨_, _, _⟩) G1 _).far (p := ⟨_, _, _⟩) G1 _).far (p := ⟨_, _, _⟩) G1 _).far (p := ⟨_, _, _⟩) G1 _).far (p := ⟨_, _, _⟩) G1 _).far (p := ⟨_, _, _⟩) G1 _).far (p := ⟨_, _, _⟩) G1 _), (by repeat (with_reducible first | exact O4.out | refine Only.setNew ?_ (by omega) _))⟩
end Go.Proofs.YtnafhblioabkgaaGreat
