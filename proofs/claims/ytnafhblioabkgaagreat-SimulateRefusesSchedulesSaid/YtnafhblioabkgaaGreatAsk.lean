/- The player: time passes, an exchange is played. -/
import Derived.Test.YtnafhblioabkgaaGreatOnly
namespace Go.Proofs.YtnafhblioabkgaaGreat
open Go.RowKit

/-- The player's cells: the schedule, true time, the reading, the sources, what is known, the clock. -/
def plC (s : Sch) (A : Option Addr) (c : Nat) (A' : Option Addr) (c' : Nat) (sv : Value) (q : Pl) : List Value :=
  [.int .i64 s.start, .int .i64 s.loc, .int .i64 s.ppb, .int .i64 s.liars, .int .i64 s.aim, .slice A s.errs.length c, .slice A' s.steps.length c', .int .i64 q.t, .int .i64 q.r, sv] ++ (encKw q.own ++ [.int .i64 q.ck.aim, .int .i64 q.ck.rate, .bool q.ck.set, .bool q.ck.held, .int .i64 q.ck.a, .int .i64 q.ck.shown])

theorem Blk.list_cell {w : World} {g : Nat} {t : TypeId} {l : List Value} (h : Blk w g t l.toArray) (i : Nat) : w.cell? ⟨g, i, none⟩ = l[i]? := by rw [h.cell]; simp
theorem Blk.list_set {w : World} {g : Nat} {t : TypeId} {l : List Value} (h : Blk w g t l.toArray) (i : Nat) (u : Value) : Blk (w.setCell ⟨g, i, none⟩ u) g t (l.set i u).toArray := by
  have := h.set i u
  rwa [List.setIfInBounds_toArray] at this

theorem pass_ok (l : List Value) (g : Nat) (T : TypeId) (t r e d : Int) (w : World) (hb : Blk w g T l.toArray) (h7 : l[7]? = some (.int .i64 t)) (h8 : l[8]? = some (.int .i64 r)) (ht : IntKind.i64.wrap (t + e) = t + e) (hr : IntKind.i64.wrap (r + d) = r + d) :
    Calls Tryz.prog 59 #[.pointer (some ⟨g, 0, none⟩), .int .i64 e, .int .i64 d] w fun x w' => x = .returned (.tuple #[]) ∧ Blk w' g T ((l.set 7 (.int .i64 (t + e))).set 8 (.int .i64 (r + d))).toArray ∧ Only g g w w' := by
  have c7 : w.cell? ⟨g, 7, none⟩ = some (.int .i64 t) := (hb.list_cell 7).trans h7
  have c8 : w.cell? ⟨g, 8, none⟩ = some (.int .i64 r) := (hb.list_cell 8).trans h8
  have f7 := hb.frozen 7
  have f8 := hb.frozen 8
  have R := Lib.hid ((hb.list_set 7 (.int .i64 (t + e))).list_set 8 (.int .i64 (r + d)))
  clear hb h7 h8
  go_enter Tryz.func59, Tryz.ntmps59
  go_wp2
  go_end0
  exact ⟨rfl, R.out, (by repeat (with_reducible first | exact Only.refl _ _ _ | refine Only.set ?_ (Or.inl rfl) _))⟩

theorem pass_pl (s : Sch) (A A' : Option Addr) (c c' : Nat) (sv : Value) (q : Pl) (g : Nat) (T : TypeId) (e d : Int) (w : World) (hb : Blk w g T (plC s A c A' c' sv q).toArray) (ht : IntKind.i64.wrap (q.t + e) = q.t + e) (hr : IntKind.i64.wrap (q.r + d) = q.r + d) :
    Calls Tryz.prog 59 #[.pointer (some ⟨g, 0, none⟩), .int .i64 e, .int .i64 d] w fun x w' => x = .returned (.tuple #[]) ∧ Blk w' g T (plC s A c A' c' sv { q with t := q.t + e, r := q.r + d }).toArray ∧ Only g g w w' :=
  pass_ok _ g T q.t q.r e d w hb rfl rfl ht hr
set_option maxHeartbeats 4000000 in
theorem ask_ok (s : Sch) (A A' : Option Addr) (c c' : Nat) (sv : Value) (q : Pl) (g : Nat) (T : TypeId) (x : Stp) (w : World) (B : Nat) (j : Nat) (hj : j < 64) (hq : q.good s j) (hx : x.ok s.errs.length s.ppb) (hB : B ≤ g) (he : RdL encI 1 w B A s.errs.length s.errs)
    (hb : Blk w g T (plC s A c A' c' sv q).toArray) :
    Calls Tryz.prog 32 #[.pointer (some ⟨g, 0, none⟩), vStp x] w fun r w' => r = .returned (.agg #[.int .i64 (q.sm x (s.errs.getD x.src.toNat 0)).t1, .int .i64 (q.sm x (s.errs.getD x.src.toNat 0)).t2, .int .i64 (q.sm x (s.errs.getD x.src.toNat 0)).t3, .int .i64 (q.sm x (s.errs.getD x.src.toNat 0)).t4, .int .i64 (s.errs.getD x.src.toNat 0)]) ∧ Blk w' g T (plC s A c A' c' sv (q.moved x)).toArray ∧ Only g g w w' := by
  have s0 := hx.s0
  have s1 := hx.s1
  obtain ⟨b, off, y, hA, hbB, hz, hd, e0⟩ := he.getI (i := x.src.toNat) (by omega)
  have hy : s.errs.getD x.src.toNat 0 = y := by rw [List.getD_eq_getElem?_getD, hz]; rfl
  rw [hy]
  obtain ⟨b1, b2, b3, b4, b5, b6, b7, b8⟩ := hx.bounds
  have v2 := hx.w2
  have v3 := hx.w3
  have t0 := hq.t0
  have t1 := hq.t1
  have r0 := hq.r0
  have r1 := hq.r1
  have P1 := Lib.hid fun W (h : Blk W g T (plC s A c A' c' sv q).toArray) => pass_pl s A A' c c' sv q g T x.tru x.loc W h (IntWalk.i64_in _ (by omega)) (IntWalk.i64_in _ (by omega))
  have P2 := Lib.hid fun W (h : Blk W g T (plC s A c A' c' sv { q with t := q.t + x.tru, r := q.r + x.loc }).toArray) => pass_pl s A A' c c' sv _ g T x.out x.outL W h (IntWalk.i64_in _ (by dsimp only; omega)) (IntWalk.i64_in _ (by dsimp only; omega))
  have P3 := Lib.hid fun W (h : Blk W g T (plC s A c A' c' sv { q with t := q.t + x.tru + x.out, r := q.r + x.loc + x.outL }).toArray) => pass_pl s A A' c c' sv _ g T x.hold x.holdL W h (IntWalk.i64_in _ (by dsimp only; omega)) (IntWalk.i64_in _ (by dsimp only; omega))
  have P4 := Lib.hid fun W (h : Blk W g T (plC s A c A' c' sv { q with t := q.t + x.tru + x.out + x.hold, r := q.r + x.loc + x.outL + x.holdL }).toArray) => pass_pl s A A' c c' sv _ g T x.back x.backL W h (IntWalk.i64_in _ (by dsimp only; omega)) (IntWalk.i64_in _ (by dsimp only; omega))
  have w2 : IntKind.i64.wrap (q.t + x.tru + x.out + x.w2) = q.t + x.tru + x.out + x.w2 := IntWalk.i64_in _ (by omega)
  have w3 : IntKind.i64.wrap (q.t + x.tru + x.out + x.hold + x.w3) = q.t + x.tru + x.out + x.hold + x.w3 := IntWalk.i64_in _ (by omega)
  have e1 : ((x.src.toNat : Nat) : Int) = x.src := by omega
  unfold Pl.sm Pl.moved
  dsimp only
  dsimp only at P2 P3 P4
  have HB := Lib.hid hb
  have hg := hb.lt
  have k5 : w.cell? ⟨g, 5, none⟩ = some (.slice (some ⟨b, off, none⟩) s.errs.length c) := by rw [← hA]; exact hb.list_cell 5
  have hbw : b < w.heap.size := by omega
  subst hA
  obtain ⟨W, hW⟩ : ∃ W, W = (w.alloc (.cells #[.int .i64 x.src, .int .i64 x.tru, .int .i64 x.loc, .int .i64 x.out, .int .i64 x.outL, .int .i64 x.hold, .int .i64 x.holdL, .int .i64 x.back, .int .i64 x.backL, .int .i64 x.w2, .int .i64 x.w3] 45)).alloc (.cells #[.int .i64 0, .int .i64 0, .int .i64 0, .int .i64 0, .int .i64 0] 68) := ⟨_, rfl⟩
  have X0 := Lib.hid (show Blk W w.heap.size 45 #[.int .i64 x.src, .int .i64 x.tru, .int .i64 x.loc, .int .i64 x.out, .int .i64 x.outL, .int .i64 x.hold, .int .i64 x.holdL, .int .i64 x.back, .int .i64 x.backL, .int .i64 x.w2, .int .i64 x.w3] by rw [hW]; exact (Blk.new _ _ _).alloc _)
  have R0 := Lib.hid (show Blk W (w.heap.size + 1) 68 #[.int .i64 0, .int .i64 0, .int .i64 0, .int .i64 0, .int .i64 0] by rw [hW]; exact Blk.new1 _ _ _ _)
  have hsW : W.heap.size = w.heap.size + 2 := by rw [hW]; simp
  have OW := Lib.hid (show Only g g w W by rw [hW]; exact ((Only.refl _ _ _).alloc _).alloc _)
  have BW : Below w.heap.size w W := by rw [hW]; exact below_alloc (below_alloc (Below.refl _ _) _) _
  have HW := Lib.hid (HB.out.keep BW)
  replace k5 := cell_keep BW k5
  replace e0 := cell_keep BW e0
  have x0 := X0.out.cell 0
  simp only [List.getElem?_toArray, List.getElem?_cons_zero] at x0
  have n5 := World.new_ne W _ k5
  have n6 := World.new_ne W _ e0
  have n7 := World.new_ne W _ x0
  clear hq hx he hd hz hy b1 b2 b3 b4 b5 b6 b7 b8 v2 v3 t0 t1 r0 r1 hb
  go_enter Tryz.func32, Tryz.ntmps32
  go_wp2_with fail
  rw [← hW]
  clear hW BW
  go_region_held3 (fun w' => w'.cell? ⟨g, 5, none⟩ = some (.slice (some ⟨b, off, none⟩) s.errs.length c) ∧ w'.cell? ⟨w.heap.size, 0, none⟩ = some (.int .i64 x.src) ∧ w'.cell? ⟨b, off + x.src.toNat, none⟩ = some (.int .i64 y)) (first | go_keep | (exact held3 (by assumption) (below_alloc (Below.refl _ _) _))) (fail)
  generalize hW2 : (W.alloc (.cells #[.int .i64 0, .int .i64 0, .int .i64 0, .int .i64 0, .int .i64 y] 68)).drew = W2
  have B2 : Below W.heap.size W W2 := by rw [← hW2]; exact below_drew (below_alloc (Below.refl _ _) _)
  have X2 := Lib.hid (X0.out.keep B2)
  have R2 := Lib.hid (R0.out.keep B2)
  have H2 := Lib.hid (HW.out.keep B2)
  have O2 := Lib.hid (OW.out.then B2)
  have S2 := Lib.hid (show Blk W2 (w.heap.size + 2) 68 #[.int .i64 0, .int .i64 0, .int .i64 0, .int .i64 0, .int .i64 y] by rw [← hW2, ← hsW]; exact (Blk.new _ _ _).drew)
  clear hW2 B2 X0 R0 HW OW x0 n5 n6 n7 k5 e0
  obtain ⟨x0, x1, x2, x3, x4, x5, x6, x7, x8, x9, x10⟩ := blk11 X2.out
  have n9 : w.heap.size + 2 ≠ g := by omega
  go_wp2_with fail
  refine (P1.out _ H2.out).mono ?_
  rintro e w3 ⟨rfl, hb, ho⟩
  have H3 := Lib.hid hb
  have X3 := Lib.hid (X2.out.keepO ho (by omega) (by omega))
  have R3 := Lib.hid (R2.out.keepO ho (by omega) (by omega))
  have S3 : Hid (Blk w3 (w.heap.size + 2) 68 #[.int .i64 (0), .int .i64 (0), .int .i64 (0), .int .i64 (0), .int .i64 (y)]) := Lib.hid (S2.out.keepO ho (by omega) (by omega))
  have O3 := Lib.hid (O2.out.trans ho)
  clear hb ho x0 x1 x2 x3 x4 x5 x6 x7 x8 x9 x10 X2 R2 S2 O2 H2
  obtain ⟨x0, x1, x2, x3, x4, x5, x6, x7, x8, x9, x10⟩ := blk11 X3.out
  have t8 : w3.cell? ⟨g, 8, none⟩ = some (.int .i64 (q.r + x.loc)) := H3.out.list_cell 8
  have y0 : w3.cell? ⟨w.heap.size + 2, 0, none⟩ = some (.int .i64 (0)) := S3.out.cell 0
  have f0 : w3.frozen? ⟨w.heap.size + 2, 0, none⟩ = false := S3.out.frozen 0
  go_wp2_with fail
  refine (P2.out _ (H3.out.far (by show _ ≠ w.heap.size + 2; omega) _)).mono ?_
  rintro e w4 ⟨rfl, hb, ho⟩
  have H4 := Lib.hid hb
  have X4 := Lib.hid ((X3.out.far (by show _ ≠ w.heap.size + 2; omega) _).keepO ho (by omega) (by omega))
  have R4 := Lib.hid ((R3.out.far (by show _ ≠ w.heap.size + 2; omega) _).keepO ho (by omega) (by omega))
  have S4 : Hid (Blk w4 (w.heap.size + 2) 68 #[.int .i64 (q.r + x.loc), .int .i64 (0), .int .i64 (0), .int .i64 (0), .int .i64 (y)]) := Lib.hid ((S3.out.set 0 _).keepO ho (by omega) (by omega))
  have O4 := Lib.hid ((O3.out.setNew (by omega) _).trans ho)
  clear hb ho t8 y0 f0 x0 x1 x2 x3 x4 x5 x6 x7 x8 x9 x10 X3 R3 S3 O3 H3
  obtain ⟨x0, x1, x2, x3, x4, x5, x6, x7, x8, x9, x10⟩ := blk11 X4.out
  have t7 : w4.cell? ⟨g, 7, none⟩ = some (.int .i64 (q.t + x.tru + x.out)) := H4.out.list_cell 7
  have y1 : w4.cell? ⟨w.heap.size + 2, 1, none⟩ = some (.int .i64 (0)) := S4.out.cell 1
  have f1 : w4.frozen? ⟨w.heap.size + 2, 1, none⟩ = false := S4.out.frozen 1
  go_wp2_with fail
  go_region_held3 (fun w' => w'.cell? ⟨g, 7, none⟩ = some (.int .i64 (q.t + x.tru + x.out)) ∧ w'.cell? ⟨w.heap.size, 9, none⟩ = some (.int .i64 x.w2)) (go_keep) (fail)
  generalize hW5 : (w4.setCell ⟨w.heap.size + 2, 1, none⟩ (.int .i64 (q.t + x.tru + x.out + x.w2))).drew = w5
  have H5 := Lib.hid (show Blk w5 g T _ by rw [← hW5]; exact (H4.out.far (by show _ ≠ w.heap.size + 2; omega) _).drew)
  have X5 := Lib.hid (show Blk w5 w.heap.size _ _ by rw [← hW5]; exact (X4.out.far (by show _ ≠ w.heap.size + 2; omega) _).drew)
  have R5 := Lib.hid (show Blk w5 (w.heap.size + 1) _ _ by rw [← hW5]; exact (R4.out.far (by show _ ≠ w.heap.size + 2; omega) _).drew)
  have S5 : Hid (Blk w5 (w.heap.size + 2) 68 #[.int .i64 (q.r + x.loc), .int .i64 (q.t + x.tru + x.out + x.w2), .int .i64 (0), .int .i64 (0), .int .i64 (y)]) := Lib.hid (by rw [← hW5]; exact (S4.out.set 1 _).drew)
  have O5 := Lib.hid (show Only g g w w5 by rw [← hW5]; exact (O4.out.setNew (by omega) _).drew)
  clear hW5 x0 x1 x2 x3 x4 x5 x6 x7 x8 x9 x10 X4 R4 S4 O4 H4 t7 y1 f1
  obtain ⟨x0, x1, x2, x3, x4, x5, x6, x7, x8, x9, x10⟩ := blk11 X5.out
  go_wp2_with fail
  refine (P3.out _ H5.out).mono ?_
  rintro e w6 ⟨rfl, hb, ho⟩
  have H6 := Lib.hid hb
  have X6 := Lib.hid (X5.out.keepO ho (by omega) (by omega))
  have R6 := Lib.hid (R5.out.keepO ho (by omega) (by omega))
  have S6 : Hid (Blk w6 (w.heap.size + 2) 68 #[.int .i64 (q.r + x.loc), .int .i64 (q.t + x.tru + x.out + x.w2), .int .i64 (0), .int .i64 (0), .int .i64 (y)]) := Lib.hid (S5.out.keepO ho (by omega) (by omega))
  have O6 := Lib.hid (O5.out.trans ho)
  clear hb ho x0 x1 x2 x3 x4 x5 x6 x7 x8 x9 x10 X5 R5 S5 O5 H5
  obtain ⟨x0, x1, x2, x3, x4, x5, x6, x7, x8, x9, x10⟩ := blk11 X6.out
  have t7 : w6.cell? ⟨g, 7, none⟩ = some (.int .i64 (q.t + x.tru + x.out + x.hold)) := H6.out.list_cell 7
  have y2 : w6.cell? ⟨w.heap.size + 2, 2, none⟩ = some (.int .i64 (0)) := S6.out.cell 2
  have f2 : w6.frozen? ⟨w.heap.size + 2, 2, none⟩ = false := S6.out.frozen 2
  go_wp2_with fail
  go_region_held3 (fun w' => w'.cell? ⟨g, 7, none⟩ = some (.int .i64 (q.t + x.tru + x.out + x.hold)) ∧ w'.cell? ⟨w.heap.size, 10, none⟩ = some (.int .i64 x.w3)) (go_keep) (fail)
  generalize hW7 : (w6.setCell ⟨w.heap.size + 2, 2, none⟩ (.int .i64 (q.t + x.tru + x.out + x.hold + x.w3))).drew = w7
  have H7 := Lib.hid (show Blk w7 g T _ by rw [← hW7]; exact (H6.out.far (by show _ ≠ w.heap.size + 2; omega) _).drew)
  have X7 := Lib.hid (show Blk w7 w.heap.size _ _ by rw [← hW7]; exact (X6.out.far (by show _ ≠ w.heap.size + 2; omega) _).drew)
  have R7 := Lib.hid (show Blk w7 (w.heap.size + 1) _ _ by rw [← hW7]; exact (R6.out.far (by show _ ≠ w.heap.size + 2; omega) _).drew)
  have S7 : Hid (Blk w7 (w.heap.size + 2) 68 #[.int .i64 (q.r + x.loc), .int .i64 (q.t + x.tru + x.out + x.w2), .int .i64 (q.t + x.tru + x.out + x.hold + x.w3), .int .i64 (0), .int .i64 (y)]) := Lib.hid (by rw [← hW7]; exact (S6.out.set 2 _).drew)
  have O7 := Lib.hid (show Only g g w w7 by rw [← hW7]; exact (O6.out.setNew (by omega) _).drew)
  clear hW7 x0 x1 x2 x3 x4 x5 x6 x7 x8 x9 x10 X6 R6 S6 O6 H6 t7 y2 f2
  obtain ⟨x0, x1, x2, x3, x4, x5, x6, x7, x8, x9, x10⟩ := blk11 X7.out
  go_wp2_with fail
  refine (P4.out _ H7.out).mono ?_
  rintro e w8 ⟨rfl, hb, ho⟩
  have H8 := Lib.hid hb
  have X8 := Lib.hid (X7.out.keepO ho (by omega) (by omega))
  have R8 := Lib.hid (R7.out.keepO ho (by omega) (by omega))
  have S8 : Hid (Blk w8 (w.heap.size + 2) 68 #[.int .i64 (q.r + x.loc), .int .i64 (q.t + x.tru + x.out + x.w2), .int .i64 (q.t + x.tru + x.out + x.hold + x.w3), .int .i64 (0), .int .i64 (y)]) := Lib.hid (S7.out.keepO ho (by omega) (by omega))
  have O8 := Lib.hid (O7.out.trans ho)
  clear hb ho x0 x1 x2 x3 x4 x5 x6 x7 x8 x9 x10 X7 R7 S7 O7 H7
  obtain ⟨x0, x1, x2, x3, x4, x5, x6, x7, x8, x9, x10⟩ := blk11 X8.out
  have t8 : w8.cell? ⟨g, 8, none⟩ = some (.int .i64 (q.r + x.loc + x.outL + x.holdL + x.backL)) := H8.out.list_cell 8
  have y3 : w8.cell? ⟨w.heap.size + 2, 3, none⟩ = some (.int .i64 (0)) := S8.out.cell 3
  have f3 : w8.frozen? ⟨w.heap.size + 2, 3, none⟩ = false := S8.out.frozen 3
  have y0 : w8.cell? ⟨w.heap.size + 2, 0, none⟩ = some (.int .i64 (q.r + x.loc)) := S8.out.cell 0
  have y1 : w8.cell? ⟨w.heap.size + 2, 1, none⟩ = some (.int .i64 (q.t + x.tru + x.out + x.w2)) := S8.out.cell 1
  have y2 : w8.cell? ⟨w.heap.size + 2, 2, none⟩ = some (.int .i64 (q.t + x.tru + x.out + x.hold + x.w3)) := S8.out.cell 2
  have y4 : w8.cell? ⟨w.heap.size + 2, 4, none⟩ = some (.int .i64 y) := S8.out.cell 4
  obtain ⟨z0, z1, z2, z3, z4⟩ := blk5 R8.out
  have e0 := R8.out.frozen 0
  have e1' := R8.out.frozen 1
  have e2 := R8.out.frozen 2
  have e3 := R8.out.frozen 3
  have e4 := R8.out.frozen 4
  have hz8 : g < w8.heap.size := H8.out.lt
  have hz9 : w.heap.size + 2 < w8.heap.size := S8.out.lt
  have hz7 : w.heap.size + 1 < w8.heap.size := R8.out.lt
  clear x0 x1 x2 x3 x4 x5 x6 x7 x8 x9 x10
  have F1 : g ≠ w.heap.size + 1 := by omega
  have F2 : g ≠ w.heap.size + 2 := by omega
  go_wp2
  exact bodyPost_ret (v := .agg #[.int .i64 (q.r + x.loc), .int .i64 (q.t + x.tru + x.out + x.w2), .int .i64 (q.t + x.tru + x.out + x.hold + x.w3), .int .i64 (q.r + x.loc + x.outL + x.holdL + x.backL), .int .i64 y]) (by rw [results_cell Tryz.results32]; go_simp) rfl ⟨rfl, ((((((H8.out.far (p := ⟨_, _, _⟩) F2 _).far (p := ⟨_, _, _⟩) F1 _).far (p := ⟨_, _, _⟩) F1 _).far (p := ⟨_, _, _⟩) F1 _).far (p := ⟨_, _, _⟩) F1 _).far (p := ⟨_, _, _⟩) F1 _), (by repeat (with_reducible first | exact O8.out | refine Only.setNew ?_ (by omega) _))⟩
end Go.Proofs.YtnafhblioabkgaaGreat
