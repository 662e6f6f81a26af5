/- The client's memory: what is known by a source, taken over. -/
import Derived.Test.YtnafhblioabkgaaGreatOnly
namespace Go.Proofs.YtnafhblioabkgaaGreat
open Go.RowKit

theorem held8 {w w' : World} {p0 p1 p2 p3 p4 p5 p6 p7 : Addr} {x0 x1 x2 x3 x4 x5 x6 x7 : Value} (h : w.cell? p0 = some x0 ∧ w.cell? p1 = some x1 ∧ w.cell? p2 = some x2 ∧ w.cell? p3 = some x3 ∧ w.cell? p4 = some x4 ∧ w.cell? p5 = some x5 ∧ w.cell? p6 = some x6 ∧ w.cell? p7 = some x7) (hb : Below w.heap.size w w') : w'.cell? p0 = some x0 ∧ w'.cell? p1 = some x1 ∧ w'.cell? p2 = some x2 ∧ w'.cell? p3 = some x3 ∧ w'.cell? p4 = some x4 ∧ w'.cell? p5 = some x5 ∧ w'.cell? p6 = some x6 ∧ w'.cell? p7 = some x7 := ⟨cell_keep hb h.1, cell_keep hb h.2.1, cell_keep hb h.2.2.1, cell_keep hb h.2.2.2.1, cell_keep hb h.2.2.2.2.1, cell_keep hb h.2.2.2.2.2.1, cell_keep hb h.2.2.2.2.2.2.1, cell_keep hb h.2.2.2.2.2.2.2⟩
def TakePost (o : Option Kn) (pre post : List Value) (b : Nat) (T : TypeId) (t lo hi p : Int) (w : World) (e : Ending) (w' : World) : Prop :=
  e = .returned (.tuple #[]) ∧ Blk w' b T (pre ++ (encKw (takeM o t lo hi p) ++ post)).toArray ∧ Only b b w w'
set_option maxHeartbeats 2000000 in
theorem take_first (pre post : List Value) (b o : Nat) (T : TypeId) (t lo hi p : Int) (w : World) (ho : pre.length = o) (hb : Blk w b T (pre ++ (encKw none ++ post)).toArray) (hs : okS lo hi = true) (ht : okT t = true) (p0 : 0 ≤ p) (p1 : p ≤ 1000000) :
    Calls Tryz.prog 33 #[.pointer (some ⟨b, o, none⟩), .int .i64 t, .agg #[.int .i64 lo, .int .i64 hi], .int .i64 p] w (TakePost none pre post b T t lo hi p w) := by
  have C := Lib.hid fun W => Begin_ok t lo hi p W hs ht p0 p1
  have hlt := hb.lt
  have c0 : w.cell? ⟨b, o, none⟩ = some (.bool false) := hb.mid ho 0 (by simp)
  have HB := Lib.hid hb
  have ho' := Lib.hid ho
  clear hb ho
  go_enter Tryz.func33, Tryz.ntmps33
  go_wp2_with fail
  refine (C.out _).mono ?_
  rintro e w1 ⟨rfl, hb1⟩
  have hB1 := Lib.hid (below_then (below_alloc (Below.refl _ _) _) hb1)
  have H1 := Lib.hid ((HB.out.alloc _).keep hb1)
  clear hb1 c0
  have hz1 : b < w1.heap.size := H1.out.lt
  obtain ⟨m0, m1, m2, m3, m4, m5, m6⟩ : w1.cell? ⟨b, o, none⟩ = some (.bool false) ∧ w1.cell? ⟨b, o + 1, none⟩ = some (.int .i64 0) ∧ w1.cell? ⟨b, o + 2, none⟩ = some (.int .i64 0) ∧ w1.cell? ⟨b, o + 3, none⟩ = some (.int .i64 0) ∧ w1.cell? ⟨b, o + 4, none⟩ = some (.int .i64 0) ∧ w1.cell? ⟨b, o + 5, none⟩ = some (.int .i64 0) ∧ w1.cell? ⟨b, o + 6, none⟩ = some (.int .i64 0) :=
    ⟨H1.out.mid ho'.out 0 (by simp), H1.out.mid ho'.out 1 (by simp), H1.out.mid ho'.out 2 (by simp), H1.out.mid ho'.out 3 (by simp), H1.out.mid ho'.out 4 (by simp), H1.out.mid ho'.out 5 (by simp), H1.out.mid ho'.out 6 (by simp)⟩
  obtain ⟨f0, f1, f2, f3, f4, f5, f6⟩ : w1.frozen? ⟨b, o, none⟩ = false ∧ w1.frozen? ⟨b, o + 1, none⟩ = false ∧ w1.frozen? ⟨b, o + 2, none⟩ = false ∧ w1.frozen? ⟨b, o + 3, none⟩ = false ∧ w1.frozen? ⟨b, o + 4, none⟩ = false ∧ w1.frozen? ⟨b, o + 5, none⟩ = false ∧ w1.frozen? ⟨b, o + 6, none⟩ = false :=
    ⟨H1.out.frozen _, H1.out.frozen _, H1.out.frozen _, H1.out.frozen _, H1.out.frozen _, H1.out.frozen _, H1.out.frozen _⟩
  have R : Blk (((((((w1.setCell ⟨b, o + 1, none⟩ (.int .i64 t)).setCell ⟨b, o + 2, none⟩ (.int .i64 lo)).setCell ⟨b, o + 3, none⟩ (.int .i64 hi)).setCell ⟨b, o + 4, none⟩ (.int .i64 p)).setCell ⟨b, o + 5, none⟩ (.int .i64 0)).setCell ⟨b, o + 6, none⟩ (.int .i64 0)).setCell ⟨b, o, none⟩ (.bool true)) b T (pre ++ (encKw (takeM none t lo hi p) ++ post)).toArray :=
    ((((((H1.out.mid_set ho'.out 1 (by simp) _).mid_set ho'.out 2 (by simp) _).mid_set ho'.out 3 (by simp) _).mid_set ho'.out 4 (by simp) _).mid_set ho'.out 5 (by simp) _).mid_set ho'.out 6 (by simp) _).mid_set ho'.out 0 (by simp) _
  have RR := Lib.hid R
  clear R
  go_wp2
  go_end0
  exact ⟨rfl, RR.out, (by repeat (with_reducible first | exact Only.of hB1.out | refine Only.set ?_ (Or.inl rfl) _))⟩
theorem learn_form (k : Kn) (t lo hi p : Int) : takeM (some k) t lo hi p = some (k.learn t lo hi) := rfl

set_option maxHeartbeats 2000000 in
theorem take_next (k : Kn) (pre post : List Value) (b o : Nat) (T : TypeId) (t lo hi p : Int) (w : World) (ho : pre.length = o) (hb : Blk w b T (pre ++ (encKw (some k) ++ post)).toArray) (hs : okS lo hi = true) (hk : k.goodAt t) :
    Calls Tryz.prog 33 #[.pointer (some ⟨b, o, none⟩), .int .i64 t, .agg #[.int .i64 lo, .int .i64 hi], .int .i64 p] w (TakePost (some k) pre post b T t lo hi p w) := by
  have C : Hid (∀ W, Calls Tryz.prog 61 #[.agg #[.int .i64 k.a, .int .i64 k.lo, .int .i64 k.hi, .int .i64 k.ppb, .int .i64 k.learnt, .int .i64 k.refused], .int .i64 t, .agg #[.int .i64 lo, .int .i64 hi]] W fun e w' =>
      ∃ q, e = .returned (.tuple #[.agg #[.int .i64 (k.learn t lo hi).a, .int .i64 (k.learn t lo hi).lo, .int .i64 (k.learn t lo hi).hi, .int .i64 (k.learn t lo hi).ppb, .int .i64 (k.learn t lo hi).learnt, .int .i64 (k.learn t lo hi).refused], .bool q, .int .i64 0]) ∧ Below W.heap.size W w') := by
    refine Lib.hid fun W => ?_
    by_cases hm : max (k.nowLo t) lo ≤ min (k.nowHi t) hi
    · refine (Learn_yes k t lo hi W hk hs hm).mono ?_
      rintro e w' ⟨rfl, h⟩
      exact ⟨true, by unfold Kn.learn; rw [if_pos hm], h⟩
    · refine (Learn_no k t lo hi W hk hs hm).mono ?_
      rintro e w' ⟨rfl, h⟩
      exact ⟨false, by unfold Kn.learn; rw [if_neg hm], h⟩
  clear hs hk
  unfold TakePost
  rw [learn_form]
  generalize k.learn t lo hi = k' at *
  have hlt := hb.lt
  obtain ⟨m0, m1, m2, m3, m4, m5, m6⟩ : w.cell? ⟨b, o, none⟩ = some (.bool true) ∧ w.cell? ⟨b, o + 1, none⟩ = some (.int .i64 k.a) ∧ w.cell? ⟨b, o + 2, none⟩ = some (.int .i64 k.lo) ∧ w.cell? ⟨b, o + 3, none⟩ = some (.int .i64 k.hi) ∧ w.cell? ⟨b, o + 4, none⟩ = some (.int .i64 k.ppb) ∧ w.cell? ⟨b, o + 5, none⟩ = some (.int .i64 k.learnt) ∧ w.cell? ⟨b, o + 6, none⟩ = some (.int .i64 k.refused) :=
    ⟨hb.mid ho 0 (by simp), hb.mid ho 1 (by simp), hb.mid ho 2 (by simp), hb.mid ho 3 (by simp), hb.mid ho 4 (by simp), hb.mid ho 5 (by simp), hb.mid ho 6 (by simp)⟩
  obtain ⟨W, hW⟩ : ∃ W, W = w.alloc (.cells #[.int .i64 lo, .int .i64 hi] 51) := ⟨_, rfl⟩
  have BW : Below w.heap.size w W := by rw [hW]; exact below_alloc (Below.refl _ _) _
  have HB := Lib.hid (hb.keep BW)
  have hsW : W.heap.size = w.heap.size + 1 := by rw [hW]; simp
  obtain ⟨s0, s1, _, _⟩ := blk2 (show Blk W w.heap.size 51 #[.int .i64 lo, .int .i64 hi] by rw [hW]; exact Blk.new _ _ _)
  replace m1 := cell_keep BW m1
  replace m2 := cell_keep BW m2
  replace m3 := cell_keep BW m3
  replace m4 := cell_keep BW m4
  replace m5 := cell_keep BW m5
  replace m6 := cell_keep BW m6
  have OW := Lib.hid (show Only b b w W from .of BW)
  have HS := Lib.hid (show W.cell? ⟨b, o + 1, none⟩ = some (.int .i64 k.a) ∧ W.cell? ⟨b, o + 2, none⟩ = some (.int .i64 k.lo) ∧ W.cell? ⟨b, o + 3, none⟩ = some (.int .i64 k.hi) ∧ W.cell? ⟨b, o + 4, none⟩ = some (.int .i64 k.ppb) ∧ W.cell? ⟨b, o + 5, none⟩ = some (.int .i64 k.learnt) ∧ W.cell? ⟨b, o + 6, none⟩ = some (.int .i64 k.refused) ∧ W.cell? ⟨w.heap.size, 0, none⟩ = some (.int .i64 lo) ∧ W.cell? ⟨w.heap.size, 1, none⟩ = some (.int .i64 hi) from ⟨m1, m2, m3, m4, m5, m6, s0, s1⟩)
  have ho' := Lib.hid ho
  have n5 := World.new_ne W _ m1
  have n6 := World.new_ne W _ s0
  dsimp only at n5 n6
  have n7 : w.heap.size + 1 ≠ b := by omega
  clear hb ho BW
  go_enter Tryz.func33, Tryz.ntmps33
  go_wp2_with fail
  rw [← hW]
  clear hW
  go_region_held3 (fun w' => w'.cell? ⟨b, o + 1, none⟩ = some (.int .i64 k.a) ∧ w'.cell? ⟨b, o + 2, none⟩ = some (.int .i64 k.lo) ∧ w'.cell? ⟨b, o + 3, none⟩ = some (.int .i64 k.hi) ∧ w'.cell? ⟨b, o + 4, none⟩ = some (.int .i64 k.ppb) ∧ w'.cell? ⟨b, o + 5, none⟩ = some (.int .i64 k.learnt) ∧ w'.cell? ⟨b, o + 6, none⟩ = some (.int .i64 k.refused) ∧ w'.cell? ⟨w.heap.size, 0, none⟩ = some (.int .i64 lo) ∧ w'.cell? ⟨w.heap.size, 1, none⟩ = some (.int .i64 hi)) (first | (exact held8 HS.out hB) | go_keep) (first | (go_at_call 61; refine (C.out W.drew).mono ?_; rintro e w1 ⟨q, rfl, hb⟩; have hB := below_then (below_drew (Below.refl _ _)) hb; have hS1 := held8 HS.out hB; have n8 := World.new_ne w1 _ hS1.1; have n9 := World.new_ne w1 _ hS1.2.2.2.2.2.2.1; dsimp only at n8 n9) | (go_at_call 61; refine (C.out (W.alloc _).drew).mono ?_; rintro e w1 ⟨q, rfl, hb⟩; have hB := below_then (below_drew (below_alloc (Below.refl _ _) _)) hb; have hS1 := held8 HS.out hB; have HQ := (Blk.new W _ _).drew.keep hb; rw [hsW] at HQ; obtain ⟨y0, y1, y2, y3, y4, y5⟩ := blk6 HQ; obtain ⟨v0, v1, v2, v3, v4, v5⟩ := frz6 HQ; replace HQ := Lib.hid HQ))
  · have HB1 := HB.out.keep hB
    generalize hWc : (w1.alloc (.cells #[.int .i64 k'.a, .int .i64 k'.lo, .int .i64 k'.hi, .int .i64 k'.ppb, .int .i64 k'.learnt, .int .i64 k'.refused] 64)) = Wc
    have BC : Below w1.heap.size w1 Wc := by rw [← hWc]; exact below_alloc (Below.refl _ _) _
    have HC := Lib.hid (HB1.keep BC)
    have OC := Lib.hid ((OW.out.then hB).then BC)
    have K8 : Blk Wc w1.heap.size 64 #[.int .i64 k'.a, .int .i64 k'.lo, .int .i64 k'.hi, .int .i64 k'.ppb, .int .i64 k'.learnt, .int .i64 k'.refused] := by rw [← hWc]; exact Blk.new _ _ _
    clear hWc BC HB1 hb hB s0 s1 m0 m1 m2 m3 m4 m5 m6
    obtain ⟨e0, e1, e2, e3, e4, e5⟩ := blk6 K8
    obtain ⟨u1, u2, u3, u4, u5, u6⟩ : Wc.cell? ⟨b, o + 1, none⟩ = some (.int .i64 k.a) ∧ Wc.cell? ⟨b, o + 2, none⟩ = some (.int .i64 k.lo) ∧ Wc.cell? ⟨b, o + 3, none⟩ = some (.int .i64 k.hi) ∧ Wc.cell? ⟨b, o + 4, none⟩ = some (.int .i64 k.ppb) ∧ Wc.cell? ⟨b, o + 5, none⟩ = some (.int .i64 k.learnt) ∧ Wc.cell? ⟨b, o + 6, none⟩ = some (.int .i64 k.refused) :=
      ⟨HC.out.mid ho'.out 1 (by simp), HC.out.mid ho'.out 2 (by simp), HC.out.mid ho'.out 3 (by simp), HC.out.mid ho'.out 4 (by simp), HC.out.mid ho'.out 5 (by simp), HC.out.mid ho'.out 6 (by simp)⟩
    obtain ⟨f1, f2, f3, f4, f5, f6⟩ : Wc.frozen? ⟨b, o + 1, none⟩ = false ∧ Wc.frozen? ⟨b, o + 2, none⟩ = false ∧ Wc.frozen? ⟨b, o + 3, none⟩ = false ∧ Wc.frozen? ⟨b, o + 4, none⟩ = false ∧ Wc.frozen? ⟨b, o + 5, none⟩ = false ∧ Wc.frozen? ⟨b, o + 6, none⟩ = false :=
      ⟨HC.out.frozen _, HC.out.frozen _, HC.out.frozen _, HC.out.frozen _, HC.out.frozen _, HC.out.frozen _⟩
    have RR := Lib.hid (show Blk ((((((Wc.setCell ⟨b, o + 1, none⟩ (.int .i64 k'.a)).setCell ⟨b, o + 2, none⟩ (.int .i64 k'.lo)).setCell ⟨b, o + 3, none⟩ (.int .i64 k'.hi)).setCell ⟨b, o + 4, none⟩ (.int .i64 k'.ppb)).setCell ⟨b, o + 5, none⟩ (.int .i64 k'.learnt)).setCell ⟨b, o + 6, none⟩ (.int .i64 k'.refused)) b T (pre ++ (encKw (some k') ++ post)).toArray from
      (((((HC.out.mid_set ho'.out 1 (by simp) _).mid_set ho'.out 2 (by simp) _).mid_set ho'.out 3 (by simp) _).mid_set ho'.out 4 (by simp) _).mid_set ho'.out 5 (by simp) _).mid_set ho'.out 6 (by simp) _)
    clear K8 hS1
    go_wp2
    go_end0
    exact ⟨rfl, RR.out, (by repeat (with_reducible first | exact OC.out | refine Only.set ?_ (Or.inl rfl) _))⟩
  · have HB1 := HB.out.keep hB
    have n7' : b ≠ w.heap.size + 1 := Ne.symm n7
    generalize hWc : ((((((w1.setCell ⟨w.heap.size + 1, 0, none⟩ (.int .i64 k'.a)).setCell ⟨w.heap.size + 1, 1, none⟩ (.int .i64 k'.lo)).setCell ⟨w.heap.size + 1, 2, none⟩ (.int .i64 k'.hi)).setCell ⟨w.heap.size + 1, 3, none⟩ (.int .i64 k'.ppb)).setCell ⟨w.heap.size + 1, 4, none⟩ (.int .i64 k'.learnt)).setCell ⟨w.heap.size + 1, 5, none⟩ (.int .i64 k'.refused)) = Wc
    have HC := Lib.hid (show Blk Wc b T _ by rw [← hWc]; exact ((((((HB1.far (p := ⟨_, _, _⟩) n7' _).far (p := ⟨_, _, _⟩) n7' _).far (p := ⟨_, _, _⟩) n7' _).far (p := ⟨_, _, _⟩) n7' _).far (p := ⟨_, _, _⟩) n7' _).far (p := ⟨_, _, _⟩) n7' _))
    have OC := Lib.hid (show Only b b w Wc by rw [← hWc]; exact (((((((OW.out.then hB).setNew (by omega) _).setNew (by omega) _).setNew (by omega) _).setNew (by omega) _).setNew (by omega) _).setNew (by omega) _))
    have K8 : Blk Wc (w.heap.size + 1) 64 #[.int .i64 k'.a, .int .i64 k'.lo, .int .i64 k'.hi, .int .i64 k'.ppb, .int .i64 k'.learnt, .int .i64 k'.refused] := by rw [← hWc]; exact ((((((HQ.out.set 0 _).set 1 _).set 2 _).set 3 _).set 4 _).set 5 _)
    clear hWc HB1 hb hB s0 s1 m0 m1 m2 m3 m4 m5 m6 y0 y1 y2 y3 y4 y5 v0 v1 v2 v3 v4 v5 HQ
    obtain ⟨e0, e1, e2, e3, e4, e5⟩ := blk6 K8
    obtain ⟨u1, u2, u3, u4, u5, u6⟩ : Wc.cell? ⟨b, o + 1, none⟩ = some (.int .i64 k.a) ∧ Wc.cell? ⟨b, o + 2, none⟩ = some (.int .i64 k.lo) ∧ Wc.cell? ⟨b, o + 3, none⟩ = some (.int .i64 k.hi) ∧ Wc.cell? ⟨b, o + 4, none⟩ = some (.int .i64 k.ppb) ∧ Wc.cell? ⟨b, o + 5, none⟩ = some (.int .i64 k.learnt) ∧ Wc.cell? ⟨b, o + 6, none⟩ = some (.int .i64 k.refused) :=
      ⟨HC.out.mid ho'.out 1 (by simp), HC.out.mid ho'.out 2 (by simp), HC.out.mid ho'.out 3 (by simp), HC.out.mid ho'.out 4 (by simp), HC.out.mid ho'.out 5 (by simp), HC.out.mid ho'.out 6 (by simp)⟩
    obtain ⟨f1, f2, f3, f4, f5, f6⟩ : Wc.frozen? ⟨b, o + 1, none⟩ = false ∧ Wc.frozen? ⟨b, o + 2, none⟩ = false ∧ Wc.frozen? ⟨b, o + 3, none⟩ = false ∧ Wc.frozen? ⟨b, o + 4, none⟩ = false ∧ Wc.frozen? ⟨b, o + 5, none⟩ = false ∧ Wc.frozen? ⟨b, o + 6, none⟩ = false :=
      ⟨HC.out.frozen _, HC.out.frozen _, HC.out.frozen _, HC.out.frozen _, HC.out.frozen _, HC.out.frozen _⟩
    have RR := Lib.hid (show Blk ((((((Wc.setCell ⟨b, o + 1, none⟩ (.int .i64 k'.a)).setCell ⟨b, o + 2, none⟩ (.int .i64 k'.lo)).setCell ⟨b, o + 3, none⟩ (.int .i64 k'.hi)).setCell ⟨b, o + 4, none⟩ (.int .i64 k'.ppb)).setCell ⟨b, o + 5, none⟩ (.int .i64 k'.learnt)).setCell ⟨b, o + 6, none⟩ (.int .i64 k'.refused)) b T (pre ++ (encKw (some k') ++ post)).toArray from
      (((((HC.out.mid_set ho'.out 1 (by simp) _).mid_set ho'.out 2 (by simp) _).mid_set ho'.out 3 (by simp) _).mid_set ho'.out 4 (by simp) _).mid_set ho'.out 5 (by simp) _).mid_set ho'.out 6 (by simp) _)
    clear K8 hS1
    go_wp2
    go_end0
    exact ⟨rfl, RR.out, (by repeat (with_reducible first | exact OC.out | refine Only.set ?_ (Or.inl rfl) _))⟩
end Go.Proofs.YtnafhblioabkgaaGreat
