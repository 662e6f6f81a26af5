/- The reference's layer 41: what a client knows. -/
import Derived.Test.YtnafhblioabkgaaGreatRMerge
import Derived.Test.YtnafhblioabkgaaGreatRSample
import Derived.Test.YtnafhblioabkgaaGreatRun
import Derived.Deep.RegionHeld3
import Derived.Test.YtnafhblioabkgaaGreatInv
namespace Go.Proofs.YtnafhblioabkgaaGreat
open Go.RowKit

abbrev encB (o : Option Kn) : List Value := [.bool o.isSome]
abbrev kn0 (o : Option Kn) : Kn := o.getD ⟨0, 0, 0, 0, 0, 0⟩
abbrev encKb (o : Option Kn) : List Value := encKn (kn0 o)
def mdC (n gs gb : Nat) (own : Option Kn) : List Value := [.slice (some ⟨gs, 0, none⟩) n n, .slice (some ⟨gb, 0, none⟩) n n, .bool own.isSome, .int .i64 (kn0 own).a, .int .i64 (kn0 own).lo, .int .i64 (kn0 own).hi, .int .i64 (kn0 own).ppb, .int .i64 (kn0 own).learnt, .int .i64 (kn0 own).refused]
/-- What is known stands in three blocks. -/
structure Mind (w : World) (g gs gb n : Nat) (src : List (Option Kn)) (own : Option Kn) : Prop where
  b : Blk w g 66 (mdC n gs gb own).toArray
  s : Blk w gs 4 (src.flatMap encB).toArray
  k : Blk w gb 64 (src.flatMap encKb).toArray
theorem Mind.keepO {w w' : World} {g gs gb n x y : Nat} {src : List (Option Kn)} {own : Option Kn} (h : Mind w g gs gb n src own) (ho : Only x y w w') (h1 : g ≠ x) (h2 : g ≠ y) (h3 : gs ≠ x) (h4 : gs ≠ y) (h5 : gb ≠ x) (h6 : gb ≠ y) : Mind w' g gs gb n src own :=
  ⟨h.b.keepO ho h1 h2, h.s.keepO ho h3 h4, h.k.keepO ho h5 h6⟩
theorem Mind.keep {w w' : World} {g gs gb n : Nat} {src : List (Option Kn)} {own : Option Kn} (h : Mind w g gs gb n src own) (hb : Below w.heap.size w w') : Mind w' g gs gb n src own :=
  ⟨h.b.keep hb, h.s.keep hb, h.k.keep hb⟩
theorem flat_split {α : Type} {enc : α → List Value} {k : Nat} (hk : ∀ x, (enc x).length = k) {l : List α} {i : Nat} {z : α} (hz : l[i]? = some z) : l.flatMap enc = (l.take i).flatMap enc ++ (enc z ++ (l.drop (i + 1)).flatMap enc) ∧ ((l.take i).flatMap enc).length = i * k ∧ ∀ o, (l.set i o).flatMap enc = (l.take i).flatMap enc ++ (enc o ++ (l.drop (i + 1)).flatMap enc) := by
  obtain ⟨hi, rfl⟩ := List.getElem?_eq_some_iff.1 hz
  have hl : ∀ l : List α, (l.flatMap enc).length = l.length * k := by
    intro l
    induction l with
    | nil => simp
    | cons x r ih => rw [List.flatMap_cons, List.length_append, ih, hk, List.length_cons, Nat.succ_mul]; omega
  refine ⟨?_, by rw [hl, List.length_take, Nat.min_eq_left (by omega)], fun o => ?_⟩
  · conv => lhs; rw [← List.take_append_drop i l, List.drop_eq_getElem_cons hi]
    rw [List.flatMap_append, List.flatMap_cons]
  · rw [List.set_eq_take_append_cons_drop, if_pos hi, List.flatMap_append, List.flatMap_cons]
/-- Learn, whether the spans meet or not. -/
theorem rLearn_ok (k : Kn) (t lo hi : Int) (hs : okS lo hi = true) (hk : k.goodAt t) (W : World) : Calls Tryz.prog 45 #[.agg #[.int .i64 k.a, .int .i64 k.lo, .int .i64 k.hi, .int .i64 k.ppb, .int .i64 k.learnt, .int .i64 k.refused], .int .i64 t, .agg #[.int .i64 lo, .int .i64 hi]] W fun e w' =>
      ∃ q, e = .returned (.tuple #[.agg #[.int .i64 (k.learn t lo hi).a, .int .i64 (k.learn t lo hi).lo, .int .i64 (k.learn t lo hi).hi, .int .i64 (k.learn t lo hi).ppb, .int .i64 (k.learn t lo hi).learnt, .int .i64 (k.learn t lo hi).refused], .bool q, .int .i64 0]) ∧ Below W.heap.size W w' := by
  by_cases hm : max (k.nowLo t) lo ≤ min (k.nowHi t) hi
  · refine (rLearn_yes k t lo hi W hk hs hm).mono ?_
    rintro e w' ⟨rfl, h⟩
    exact ⟨true, by unfold Kn.learn; rw [if_pos hm], h⟩
  · refine (rLearn_no k t lo hi W hk hs hm).mono ?_
    rintro e w' ⟨rfl, h⟩
    exact ⟨false, by unfold Kn.learn; rw [if_neg hm], h⟩

theorem held4 {w w' : World} {p0 p1 p2 p3 : Addr} {x0 x1 x2 x3 : Value} (h : w.cell? p0 = some x0 ∧ w.cell? p1 = some x1 ∧ w.cell? p2 = some x2 ∧ w.cell? p3 = some x3) (hb : Below w.heap.size w w') : w'.cell? p0 = some x0 ∧ w'.cell? p1 = some x1 ∧ w'.cell? p2 = some x2 ∧ w'.cell? p3 = some x3 := ⟨cell_keep hb h.1, cell_keep hb h.2.1, cell_keep hb h.2.2.1, cell_keep hb h.2.2.2⟩
theorem cells6 {w : World} {b : Nat} {t : TypeId} {all pre post : List Value} {z : Option Kn} {o : Nat} (h : Blk w b t all.toArray) (ha : all = pre ++ (encKb z ++ post)) (ho : pre.length = o) :
    w.cell? ⟨b, o, none⟩ = some (.int .i64 (kn0 z).a) ∧ w.cell? ⟨b, o + 1, none⟩ = some (.int .i64 (kn0 z).lo) ∧ w.cell? ⟨b, o + 2, none⟩ = some (.int .i64 (kn0 z).hi) ∧ w.cell? ⟨b, o + 3, none⟩ = some (.int .i64 (kn0 z).ppb) ∧ w.cell? ⟨b, o + 4, none⟩ = some (.int .i64 (kn0 z).learnt) ∧ w.cell? ⟨b, o + 5, none⟩ = some (.int .i64 (kn0 z).refused) := by
  subst ha
  exact ⟨h.mid ho 0 (by simp), h.mid ho 1 (by simp), h.mid ho 2 (by simp), h.mid ho 3 (by simp), h.mid ho 4 (by simp), h.mid ho 5 (by simp)⟩
theorem froz6 {w : World} {b : Nat} {t : TypeId} {cs : Array Value} (h : Blk w b t cs) (o : Nat) : w.frozen? ⟨b, o, none⟩ = false ∧ w.frozen? ⟨b, o + 1, none⟩ = false ∧ w.frozen? ⟨b, o + 2, none⟩ = false ∧ w.frozen? ⟨b, o + 3, none⟩ = false ∧ w.frozen? ⟨b, o + 4, none⟩ = false ∧ w.frozen? ⟨b, o + 5, none⟩ = false :=
  ⟨h.frozen _, h.frozen _, h.frozen _, h.frozen _, h.frozen _, h.frozen _⟩
theorem set6 {w : World} {b : Nat} {t : TypeId} {all all' pre post : List Value} {z : Option Kn} {k : Kn} {o : Nat} (h : Blk w b t all.toArray) (ha : all = pre ++ (encKb z ++ post)) (ho : pre.length = o) (ha' : all' = pre ++ (encKb (some k) ++ post)) :
    Blk ((((((w.setCell ⟨b, o, none⟩ (.int .i64 k.a)).setCell ⟨b, o + 1, none⟩ (.int .i64 k.lo)).setCell ⟨b, o + 2, none⟩ (.int .i64 k.hi)).setCell ⟨b, o + 3, none⟩ (.int .i64 k.ppb)).setCell ⟨b, o + 4, none⟩ (.int .i64 k.learnt)).setCell ⟨b, o + 5, none⟩ (.int .i64 k.refused)) b t all'.toArray := by
  subst ha ha'
  exact (((((h.mid_set ho 0 (by simp) _).mid_set ho 1 (by simp) _).mid_set ho 2 (by simp) _).mid_set ho 3 (by simp) _).mid_set ho 4 (by simp) _).mid_set ho 5 (by simp) _
theorem cell1 {w : World} {b : Nat} {t : TypeId} {all pre post : List Value} {z : Option Kn} {o : Nat} (h : Blk w b t all.toArray) (ha : all = pre ++ (encB z ++ post)) (ho : pre.length = o * 1) : w.cell? ⟨b, o, none⟩ = some (.bool z.isSome) := by
  subst ha
  exact h.mid (ho.trans (Nat.mul_one o)) 0 (by simp)
theorem set1 {w : World} {b : Nat} {t : TypeId} {all all' pre post : List Value} {z : Option Kn} {k : Kn} {o : Nat} (h : Blk w b t all.toArray) (ha : all = pre ++ (encB z ++ post)) (ho : pre.length = o * 1) (ha' : all' = pre ++ (encB (some k) ++ post)) :
    Blk (w.setCell ⟨b, o, none⟩ (.bool true)) b t all'.toArray := by
  subst ha ha'
  exact h.mid_set (ho.trans (Nat.mul_one o)) 0 (by simp) _
def hrF (g gb n i z0 : Nat) (t4 al ah : Int) (k k' : Kn) : Nat → Value → World → Prop
  | 0, x, _ => x = .pointer (some ⟨g, 0, none⟩)
  | 1, x, _ => x = .pointer (some ⟨g, 0, none⟩)
  | 2, x, _ => x = .pointer (some ⟨g, 1, none⟩)
  | 3, x, _ => x = .slice (some ⟨gb, 0, none⟩) n n
  | 4, x, _ => x = .int .i64 (i : Int)
  | 5, x, _ => x = .pointer (some ⟨g, 0, none⟩)
  | 6, x, _ => x = .pointer (some ⟨g, 0, none⟩)
  | 7, x, _ => x = .pointer (some ⟨g, 1, none⟩)
  | 8, x, _ => x = .slice (some ⟨gb, 0, none⟩) n n
  | 9, x, _ => x = .int .i64 (i : Int)
  | 10, x, _ => x = .pointer (some ⟨gb, i * 6, none⟩)
  | 11, x, _ => x = .agg #[.int .i64 k.a, .int .i64 k.lo, .int .i64 k.hi, .int .i64 k.ppb, .int .i64 k.learnt, .int .i64 k.refused]
  | 12, x, _ => x = .pointer (some ⟨z0, 3, none⟩)
  | 13, x, _ => x = .int .i64 t4
  | 14, x, _ => x = .agg #[.int .i64 al, .int .i64 ah]
  | 15, x, _ => ∃ q : Bool, x = .tuple #[.agg #[.int .i64 k'.a, .int .i64 k'.lo, .int .i64 k'.hi, .int .i64 k'.ppb, .int .i64 k'.learnt, .int .i64 k'.refused], .bool q, .int .i64 0]
  | 16, x, _ => ∃ q : Bool, x = .tuple #[.agg #[.int .i64 k'.a, .int .i64 k'.lo, .int .i64 k'.hi, .int .i64 k'.ppb, .int .i64 k'.learnt, .int .i64 k'.refused], .bool q, .int .i64 0]
  | 17, x, _ => x = .agg #[.int .i64 k'.a, .int .i64 k'.lo, .int .i64 k'.hi, .int .i64 k'.ppb, .int .i64 k'.learnt, .int .i64 k'.refused]
  | 20, x, _ => x = .pointer (some ⟨gb, i * 6, none⟩)
  | _, _, _ => True
def hrFr (g gs n i z0 z1 : Nat) (m : Sm) (p al ah : Int) (v : Nat → Value) : Act := ⟨#[.pointer (some ⟨g, 0, none⟩), .int .i64 (i : Int), .agg #[.int .i64 m.t1, .int .i64 m.t2, .int .i64 m.t3, .int .i64 m.t4, .int .i64 m.err], .int .i64 p, undef, undef, .pointer (some ⟨z0, 0, none⟩), undef, .pointer (some ⟨z1, 0, none⟩), .int .i64 0, .tuple #[.agg #[.int .i64 al, .int .i64 ah], .int .i64 0], .agg #[.int .i64 m.t1, .int .i64 m.t2, .int .i64 m.t3, .int .i64 m.t4, .int .i64 m.err], .int .i64 p, .tuple #[.agg #[.int .i64 al, .int .i64 ah], .int .i64 0], .agg #[.int .i64 al, .int .i64 ah], .int .i64 0, .int .i64 0, .bool false, .pointer (some ⟨g, 0, none⟩), .pointer (some ⟨g, 0, none⟩), .pointer (some ⟨g, 0, none⟩), .slice (some ⟨gs, 0, none⟩) n n, .int .i64 (i : Int), .pointer (some ⟨gs, i, none⟩), .bool true, .bool false, undef, undef, undef, undef, undef, undef, undef, undef, undef, undef, undef, undef, undef, undef, undef, undef, undef, undef, undef, undef, v 46, v 47, v 48, v 49, v 50, v 51, v 52, v 53, v 54, v 55, v 56, v 57, v 58, v 59, v 60, v 61, v 62, v 63, v 64, v 65, v 66], []⟩
theorem hrF_any {g gb n i z0 : Nat} {t4 al ah : Int} {k k' : Kn} {j : Nat} {x : Value} {w w' : World} (h : hrF g gb n i z0 t4 al ah k k' j x w) : hrF g gb n i z0 t4 al ah k k' j x w' := by
  unfold hrF at *
  split at h
  all_goals first | exact h | trivial
def HearPost (src : List (Option Kn)) (own : Option Kn) (g gs gb n : Nat) (w : World) (e : Ending) (w' : World) : Prop :=
  e = .returned (.tuple #[]) ∧ Mind w' g gs gb n src own ∧ Only gs gb w w'
set_option maxHeartbeats 4000000 in
set_option maxRecDepth 100000 in
theorem rhear_ok (i : Nat) (src : List (Option Kn)) (own : Option Kn) (g gs gb n : Nat) (m : Sm) (p al ah ac : Int) (w : World) (hM : Mind w g gs gb n src own) (hn : src.length = n) (hi' : i < n) (n8 : n ≤ 8) (d1 : g ≠ gs) (d2 : g ≠ gb) (d3 : gs ≠ gb)
    (hA : ∀ W, Calls Tryz.prog 43 #[.agg #[.int .i64 m.t1, .int .i64 m.t2, .int .i64 m.t3, .int .i64 m.t4, .int .i64 m.err], .int .i64 p] W fun e w' => e = .returned (.tuple #[.agg #[.int .i64 al, .int .i64 ah], .int .i64 ac]) ∧ Below W.heap.size W w')
    (hok : ac = 0 → okS al ah = true) (ht : okT m.t4 = true) (p0 : 0 ≤ p) (p1 : p ≤ 1000000) (hk : ∀ k, src.getD i none = some k → k.goodAt m.t4) :
    Calls Tryz.prog 23 #[.pointer (some ⟨g, 0, none⟩), .int .i64 (i : Int), .agg #[.int .i64 m.t1, .int .i64 m.t2, .int .i64 m.t3, .int .i64 m.t4, .int .i64 m.err], .int .i64 p] w
      (HearPost (if ac = 0 then src.set i (takeM (src.getD i none) m.t4 al ah p) else src) own g gs gb n w) := by
  have C := Lib.hid hA
  obtain ⟨z, hz⟩ : ∃ z, src[i]? = some z := ⟨_, List.getElem?_eq_getElem (by omega)⟩
  have hzD : src.getD i none = z := by rw [List.getD_eq_getElem?_getD, hz]; rfl
  rw [hzD] at hk ⊢
  obtain ⟨b1, b2, b3⟩ := flat_split (enc := encB) (k := 1) (fun _ => rfl) hz
  obtain ⟨k1, k2, k3⟩ := flat_split (enc := encKb) (k := 6) (fun _ => rfl) hz
  have HM := Lib.hid hM
  have hg := hM.b.lt
  have hgs := hM.s.lt
  have hgb := hM.k.lt
  clear hM hA
  by_cases hac : ac = 0
  · subst hac
    rw [if_pos rfl]
    have hs := hok rfl
    obtain ⟨W, hW⟩ : ∃ W, W = w.alloc (.cells #[.int .i64 m.t1, .int .i64 m.t2, .int .i64 m.t3, .int .i64 m.t4, .int .i64 m.err] 68) := ⟨_, rfl⟩
    have BW : Below w.heap.size w W := by rw [hW]; exact below_alloc (Below.refl _ _) _
    have SW := Lib.hid (show Blk W w.heap.size 68 _ by rw [hW]; exact Blk.new _ _ _)
    have zW : W.heap.size = w.heap.size + 1 := by rw [hW]; simp
    have BW' := Lib.hid BW
    obtain ⟨s0, s1, s2, s3, s4⟩ := blk5 SW.out
    cases z with
    | none =>
      have BG := Lib.hid fun W => rBegin_ok m.t4 al ah p W hs ht p0 p1
      go_enter Tryz.func23, Tryz.ntmps23
      go_wp2_with fail
      rw [← hW]
      clear hW
      go_wp2_with fail
      refine (C.out _).mono ?_
      rintro e w1 ⟨rfl, hb1⟩
      have hB1 := below_then BW'.out hb1
      have M1 := HM.out.keep hB1
      have z1 : w.heap.size < w1.heap.size := by have := hb1.size; omega
      have e0 : w1.cell? ⟨g, 0, none⟩ = some (.slice (some ⟨gs, 0, none⟩) n n) := M1.b.list_cell 0
      have f0 : w1.cell? ⟨gs, i, none⟩ = some (.bool false) := cell1 M1.s b1 b2
      have y1 : g < w1.heap.size := M1.b.lt
      have y2 : gs < w1.heap.size := M1.s.lt
      have y3 : gb < w1.heap.size := M1.k.lt
      have i0 : (0 : Int) ≤ (i : Int) := by omega
      have i1 : (i : Int) < (n : Int) := by omega
      have S1 := Lib.hid (SW.out.keep hb1)
      have M1' := Lib.hid M1
      have hB1' := Lib.hid hB1
      clear hb1 hB1 M1 s0 s1 s2 s3 s4
      go_wp2_with fail
      clear e0 f0
      obtain ⟨W1, hW1⟩ : ∃ W1, W1 = w1.alloc (.cells #[.int .i64 al, .int .i64 ah] 51) := ⟨_, rfl⟩
      rw [← hW1]
      have B1 : Below w1.heap.size w1 W1 := by rw [hW1]; exact below_alloc (Below.refl _ _) _
      have P1 := Lib.hid (show Blk W1 w1.heap.size 51 _ by rw [hW1]; exact Blk.new _ _ _)
      have S2 := Lib.hid (S1.out.keep B1)
      have M2 := Lib.hid (M1'.out.keep B1)
      have hB2 := Lib.hid (below_then hB1'.out B1)
      have z2 : W1.heap.size = w1.heap.size + 1 := by rw [hW1]; simp
      clear hW1 B1
      obtain ⟨s0, s1, s2, s3, s4⟩ := blk5 S2.out
      obtain ⟨t0, t1, _, _⟩ := blk2 P1.out
      have e1 : W1.cell? ⟨g, 1, none⟩ = some (.slice (some ⟨gb, 0, none⟩) n n) := M2.out.b.list_cell 1
      have HS := Lib.hid (show W1.cell? ⟨g, 1, none⟩ = some (.slice (some ⟨gb, 0, none⟩) n n) ∧ W1.cell? ⟨w.heap.size, 3, none⟩ = some (.int .i64 m.t4) ∧ W1.cell? ⟨w1.heap.size, 0, none⟩ = some (.int .i64 al) ∧ W1.cell? ⟨w1.heap.size, 1, none⟩ = some (.int .i64 ah) from ⟨e1, s3, t0, t1⟩)
      have HSd := Lib.hid (show W1.drew.cell? ⟨g, 1, none⟩ = some (.slice (some ⟨gb, 0, none⟩) n n) ∧ W1.drew.cell? ⟨w.heap.size, 3, none⟩ = some (.int .i64 m.t4) ∧ W1.drew.cell? ⟨w1.heap.size, 0, none⟩ = some (.int .i64 al) ∧ W1.drew.cell? ⟨w1.heap.size, 1, none⟩ = some (.int .i64 ah) from HS.out)
      have r1 : gb ≠ g := Ne.symm d2
      have r2 : gb ≠ w.heap.size := by omega
      have r3 : w.heap.size ≠ gb := by omega
      have r4 : gb ≠ w1.heap.size := by omega
      have r5 : w1.heap.size ≠ gb := by omega
      clear s0 s1 s2 s4
      go_region_held3 (fun W => W.cell? ⟨g, 1, none⟩ = some (.slice (some ⟨gb, 0, none⟩) n n) ∧ W.cell? ⟨w.heap.size, 3, none⟩ = some (.int .i64 m.t4) ∧ W.cell? ⟨w1.heap.size, 0, none⟩ = some (.int .i64 al) ∧ W.cell? ⟨w1.heap.size, 1, none⟩ = some (.int .i64 ah)) (first | with_reducible exact hS9 | with_reducible exact HSd.out | go_keep) (first | (go_at_call 44; refine (BG.out _).mono ?_; rintro e w2 ⟨rfl, hb2⟩; have hB := below_then (below_drew (Below.refl W1.heap.size W1)) hb2; have hS9 := held4 HS.out hB; have M3 := M2.out.keep hB; have hy3 := M3.k.lt; obtain ⟨c0, c1, c2, c3, c4, c5⟩ := cells6 M3.k k1 k2; obtain ⟨x0, x1, x2, x3, x4, x5⟩ := froz6 M3.k (i * 6)))
      have K6 := Lib.hid (set6 (z := none) (k := ⟨m.t4, al, ah, p, 0, 0⟩) M3.k k1 k2 (k3 _))
      have O2 := below_then hB2.out hB
      generalize hWc : ((((((w2.setCell ⟨gb, i * 6, none⟩ (.int .i64 m.t4)).setCell ⟨gb, i * 6 + 1, none⟩ (.int .i64 al)).setCell ⟨gb, i * 6 + 2, none⟩ (.int .i64 ah)).setCell ⟨gb, i * 6 + 3, none⟩ (.int .i64 p)).setCell ⟨gb, i * 6 + 4, none⟩ (.int .i64 0)).setCell ⟨gb, i * 6 + 5, none⟩ (.int .i64 0)) = Wc at *
      have Bc := Lib.hid (show Blk Wc g _ _ by rw [← hWc]; exact (((((M3.b.far (p := ⟨_, _, _⟩) d2 _).far (p := ⟨_, _, _⟩) d2 _).far (p := ⟨_, _, _⟩) d2 _).far (p := ⟨_, _, _⟩) d2 _).far (p := ⟨_, _, _⟩) d2 _).far (p := ⟨_, _, _⟩) d2 _)
      have Sc := Lib.hid (show Blk Wc gs _ _ by rw [← hWc]; exact (((((M3.s.far (p := ⟨_, _, _⟩) d3 _).far (p := ⟨_, _, _⟩) d3 _).far (p := ⟨_, _, _⟩) d3 _).far (p := ⟨_, _, _⟩) d3 _).far (p := ⟨_, _, _⟩) d3 _).far (p := ⟨_, _, _⟩) d3 _)
      have Oc := Lib.hid (show Only gs gb w Wc by rw [← hWc]; exact ((((((Only.of O2).set (.inr rfl) _).set (.inr rfl) _).set (.inr rfl) _).set (.inr rfl) _).set (.inr rfl) _).set (.inr rfl) _)
      have SS := Lib.hid (set1 (k := ⟨m.t4, al, ah, p, 0, 0⟩) Sc.out b1 b2 (b3 _))
      have q0 : Wc.cell? ⟨g, 0, none⟩ = some (.slice (some ⟨gs, 0, none⟩) n n) := Bc.out.list_cell 0
      have q1 : Wc.cell? ⟨gs, i, none⟩ = some (.bool false) := cell1 Sc.out b1 b2
      have q2 : Wc.frozen? ⟨gs, i, none⟩ = false := Sc.out.frozen i
      have FIN := Lib.hid (show HearPost (src.set i (takeM none m.t4 al ah p)) own g gs gb n w (.returned (.tuple #[])) (Wc.setCell ⟨gs, i, none⟩ (.bool true)) from
        ⟨rfl, ⟨Bc.out.far (p := ⟨_, _, _⟩) d1 _, SS.out, K6.out.far (p := ⟨_, _, _⟩) (Ne.symm d3) _⟩, Oc.out.set (.inl rfl) _⟩)
      clear hWc M3 c0 c1 c2 c3 c4 c5 x0 x1 x2 x3 x4 x5 hS9 hb2 hB O2 b1 b2 b3 k1 k2 k3
      go_wp2
      go_end0
      exact FIN.out
    | some k =>
      have BG := Lib.hid fun W => rLearn_ok k m.t4 al ah hs (hk k rfl) W
      rw [learn_form]
      generalize k.learn m.t4 al ah = k' at *
      have eB : (src.set i (some k')).flatMap encB = src.flatMap encB := by rw [b3, b1]; rfl
      go_enter Tryz.func23, Tryz.ntmps23
      go_wp2_with fail
      rw [← hW]
      clear hW
      go_wp2_with fail
      refine (C.out _).mono ?_
      rintro e w1 ⟨rfl, hb1⟩
      have hB1 := below_then BW'.out hb1
      have M1 := HM.out.keep hB1
      have z1 : w.heap.size < w1.heap.size := by have := hb1.size; omega
      have e0 : w1.cell? ⟨g, 0, none⟩ = some (.slice (some ⟨gs, 0, none⟩) n n) := M1.b.list_cell 0
      have f0 : w1.cell? ⟨gs, i, none⟩ = some (.bool true) := cell1 M1.s b1 b2
      have y1 : g < w1.heap.size := M1.b.lt
      have y2 : gs < w1.heap.size := M1.s.lt
      have y3 : gb < w1.heap.size := M1.k.lt
      have i0 : (0 : Int) ≤ (i : Int) := by omega
      have i1 : (i : Int) < (n : Int) := by omega
      have S1 := Lib.hid (SW.out.keep hb1)
      have M1' := Lib.hid M1
      have hB1' := Lib.hid hB1
      clear hb1 hB1 M1 s0 s1 s2 s3 s4
      go_wp2_with fail
      clear e0 f0
      obtain ⟨W1, hW1⟩ : ∃ W1, W1 = w1.alloc (.cells #[.int .i64 al, .int .i64 ah] 51) := ⟨_, rfl⟩
      rw [← hW1]
      have B1 : Below w1.heap.size w1 W1 := by rw [hW1]; exact below_alloc (Below.refl _ _) _
      have P1 := Lib.hid (show Blk W1 w1.heap.size 51 _ by rw [hW1]; exact Blk.new _ _ _)
      have S2 := Lib.hid (S1.out.keep B1)
      have M2 := Lib.hid (M1'.out.keep B1)
      have hB2 := Lib.hid (below_then hB1'.out B1)
      have z2 : W1.heap.size = w1.heap.size + 1 := by rw [hW1]; simp
      clear hW1 B1
      obtain ⟨s0, s1, s2, s3, s4⟩ := blk5 S2.out
      obtain ⟨t0, t1, _, _⟩ := blk2 P1.out
      have e1 : W1.cell? ⟨g, 1, none⟩ = some (.slice (some ⟨gb, 0, none⟩) n n) := M2.out.b.list_cell 1
      obtain ⟨y0, y4, y5, y6, y7, y8⟩ := (show W1.cell? ⟨gb, i * 6, none⟩ = some (.int .i64 k.a) ∧ W1.cell? ⟨gb, i * 6 + 1, none⟩ = some (.int .i64 k.lo) ∧ W1.cell? ⟨gb, i * 6 + 2, none⟩ = some (.int .i64 k.hi) ∧ W1.cell? ⟨gb, i * 6 + 3, none⟩ = some (.int .i64 k.ppb) ∧ W1.cell? ⟨gb, i * 6 + 4, none⟩ = some (.int .i64 k.learnt) ∧ W1.cell? ⟨gb, i * 6 + 5, none⟩ = some (.int .i64 k.refused) from cells6 M2.out.k k1 k2)
      have HS := Lib.hid (show W1.cell? ⟨g, 1, none⟩ = some (.slice (some ⟨gb, 0, none⟩) n n) ∧ W1.cell? ⟨w.heap.size, 3, none⟩ = some (.int .i64 m.t4) ∧ W1.cell? ⟨w1.heap.size, 0, none⟩ = some (.int .i64 al) ∧ W1.cell? ⟨w1.heap.size, 1, none⟩ = some (.int .i64 ah) from ⟨e1, s3, t0, t1⟩)
      have HSd := Lib.hid (show W1.drew.cell? ⟨g, 1, none⟩ = some (.slice (some ⟨gb, 0, none⟩) n n) ∧ W1.drew.cell? ⟨w.heap.size, 3, none⟩ = some (.int .i64 m.t4) ∧ W1.drew.cell? ⟨w1.heap.size, 0, none⟩ = some (.int .i64 al) ∧ W1.drew.cell? ⟨w1.heap.size, 1, none⟩ = some (.int .i64 ah) from HS.out)
      have r1 : gb ≠ g := Ne.symm d2
      have r2 : gb ≠ w.heap.size := by omega
      have r3 : w.heap.size ≠ gb := by omega
      have r4 : gb ≠ w1.heap.size := by omega
      have r5 : w1.heap.size ≠ gb := by omega
      clear s0 s1 s2 s4
      refine wp_region_all (by kernel_rfl) (hrFr g gs n i w.heap.size w1.heap.size m p al ah) (fun _ => undef) (by rfl) (hrF g gb n i w.heap.size m.t4 al ah k k') (Phase 21 (fun W => Below W1.heap.size W1 W) (fun W => ∃ W2, Below W1.heap.size W1 W2 ∧ W = ((((((W2.setCell ⟨gb, i * 6, none⟩ (.int .i64 k'.a)).setCell ⟨gb, i * 6 + 1, none⟩ (.int .i64 k'.lo)).setCell ⟨gb, i * 6 + 2, none⟩ (.int .i64 k'.hi)).setCell ⟨gb, i * 6 + 3, none⟩ (.int .i64 k'.ppb)).setCell ⟨gb, i * 6 + 4, none⟩ (.int .i64 k'.learnt)).setCell ⟨gb, i * 6 + 5, none⟩ (.int .i64 k'.refused)))) (fun _ _ _ => True) (by kernel_rfl) (by kernel_rfl) ?hX0 (fun _ _ _ _ _ _ h _ => hrF_any h) ?hdst ?hop ?hend
      case hX0 => exact ⟨fun _ => below_drew (Below.refl _ _), fun h => absurd h (by decide)⟩
      case hdst =>
        intro i o hi ho
        have hi' : i < 22 := hi
        obtain rfl | rfl | rfl | rfl | rfl | rfl | rfl | rfl | rfl | rfl | rfl | rfl | rfl | rfl | rfl | rfl | rfl | rfl | rfl | rfl | rfl | rfl : i = 0 ∨ i = 1 ∨ i = 2 ∨ i = 3 ∨ i = 4 ∨ i = 5 ∨ i = 6 ∨ i = 7 ∨ i = 8 ∨ i = 9 ∨ i = 10 ∨ i = 11 ∨ i = 12 ∨ i = 13 ∨ i = 14 ∨ i = 15 ∨ i = 16 ∨ i = 17 ∨ i = 18 ∨ i = 19 ∨ i = 20 ∨ i = 21 := by omega
        all_goals
          obtain rfl := Option.some.inj ho
          exact ⟨rfl, fun _ _ => rfl⟩
      case hop =>
        intro i o L v W2 hi ho hu hC hX hd K hK
        have hi' : i < 22 := hi
        clear hi
        obtain rfl | rfl | rfl | rfl | rfl | rfl | rfl | rfl | rfl | rfl | rfl | rfl | rfl | rfl | rfl | rfl | rfl | rfl | rfl | rfl | rfl | rfl : i = 0 ∨ i = 1 ∨ i = 2 ∨ i = 3 ∨ i = 4 ∨ i = 5 ∨ i = 6 ∨ i = 7 ∨ i = 8 ∨ i = 9 ∨ i = 10 ∨ i = 11 ∨ i = 12 ∨ i = 13 ∨ i = 14 ∨ i = 15 ∨ i = 16 ∨ i = 17 ∨ i = 18 ∨ i = 19 ∨ i = 20 ∨ i = 21 := by omega
        · obtain rfl := Option.some.inj ho
          have hP := hX.1 (notYet (m := 21) (i := 0) (by kernel_rfl) hC hu)
          simp only [hrFr] at hK ⊢
          go_simp
          exact hK _ _ (hX.keep (by decide)) trivial rfl
        · obtain rfl := Option.some.inj ho
          have h0 : (v 47) = .pointer (some ⟨g, 0, none⟩) := hd ⟨0, .data⟩ (by simp) rfl _ 47 rfl rfl
          have hP := hX.1 (notYet (m := 21) (i := 1) (by kernel_rfl) hC hu)
          simp only [hrFr, h0] at hK ⊢
          go_simp
          exact hK _ _ (hX.keep (by decide)) trivial rfl
        · obtain rfl := Option.some.inj ho
          have h1 : (v 48) = .pointer (some ⟨g, 0, none⟩) := hd ⟨1, .data⟩ (by simp) rfl _ 48 rfl rfl
          have hP := hX.1 (notYet (m := 21) (i := 2) (by kernel_rfl) hC hu)
          simp only [hrFr, h1] at hK ⊢
          go_simp
          exact hK _ _ (hX.keep (by decide)) trivial rfl
        · obtain rfl := Option.some.inj ho
          have h2 : (v 49) = .pointer (some ⟨g, 1, none⟩) := hd ⟨2, .data⟩ (by simp) rfl _ 49 rfl rfl
          have hP := hX.1 (notYet (m := 21) (i := 3) (by kernel_rfl) hC hu)
          have c0 := cell_keep hP e1
          simp only [hrFr, h2] at hK ⊢
          go_simp
          exact hK _ _ (hX.keep (by decide)) trivial rfl
        · obtain rfl := Option.some.inj ho
          have hP := hX.1 (notYet (m := 21) (i := 4) (by kernel_rfl) hC hu)
          simp only [hrFr] at hK ⊢
          go_simp
          exact hK _ _ (hX.keep (by decide)) trivial rfl
        · obtain rfl := Option.some.inj ho
          have hP := hX.1 (notYet (m := 21) (i := 5) (by kernel_rfl) hC hu)
          simp only [hrFr] at hK ⊢
          go_simp
          exact hK _ _ (hX.keep (by decide)) trivial rfl
        · obtain rfl := Option.some.inj ho
          have h5 : (v 52) = .pointer (some ⟨g, 0, none⟩) := hd ⟨5, .data⟩ (by simp) rfl _ 52 rfl rfl
          have hP := hX.1 (notYet (m := 21) (i := 6) (by kernel_rfl) hC hu)
          simp only [hrFr, h5] at hK ⊢
          go_simp
          exact hK _ _ (hX.keep (by decide)) trivial rfl
        · obtain rfl := Option.some.inj ho
          have h6 : (v 53) = .pointer (some ⟨g, 0, none⟩) := hd ⟨6, .data⟩ (by simp) rfl _ 53 rfl rfl
          have hP := hX.1 (notYet (m := 21) (i := 7) (by kernel_rfl) hC hu)
          simp only [hrFr, h6] at hK ⊢
          go_simp
          exact hK _ _ (hX.keep (by decide)) trivial rfl
        · obtain rfl := Option.some.inj ho
          have h7 : (v 54) = .pointer (some ⟨g, 1, none⟩) := hd ⟨7, .data⟩ (by simp) rfl _ 54 rfl rfl
          have hP := hX.1 (notYet (m := 21) (i := 8) (by kernel_rfl) hC hu)
          have c0 := cell_keep hP e1
          simp only [hrFr, h7] at hK ⊢
          go_simp
          exact hK _ _ (hX.keep (by decide)) trivial rfl
        · obtain rfl := Option.some.inj ho
          have hP := hX.1 (notYet (m := 21) (i := 9) (by kernel_rfl) hC hu)
          simp only [hrFr] at hK ⊢
          go_simp
          exact hK _ _ (hX.keep (by decide)) trivial rfl
        · obtain rfl := Option.some.inj ho
          have h8 : (v 55) = .slice (some ⟨gb, 0, none⟩) n n := hd ⟨8, .data⟩ (by simp) rfl _ 55 rfl rfl
          have h9 : (v 56) = .int .i64 (i : Int) := hd ⟨9, .data⟩ (by simp) rfl _ 56 rfl rfl
          have hP := hX.1 (notYet (m := 21) (i := 10) (by kernel_rfl) hC hu)
          simp only [hrFr, h8, h9] at hK ⊢
          go_simp
          exact hK _ _ (hX.keep (by decide)) trivial rfl
        · obtain rfl := Option.some.inj ho
          have h10 : (v 57) = .pointer (some ⟨gb, i * 6, none⟩) := hd ⟨10, .data⟩ (by simp) rfl _ 57 rfl rfl
          have hP := hX.1 (notYet (m := 21) (i := 11) (by kernel_rfl) hC hu)
          have c0 := cell_keep hP y0
          have c1 := cell_keep hP y4
          have c2 := cell_keep hP y5
          have c3 := cell_keep hP y6
          have c4 := cell_keep hP y7
          have c5 := cell_keep hP y8
          simp only [hrFr, h10] at hK ⊢
          go_simp
          exact hK _ _ (hX.keep (by decide)) trivial rfl
        · obtain rfl := Option.some.inj ho
          have hP := hX.1 (notYet (m := 21) (i := 12) (by kernel_rfl) hC hu)
          simp only [hrFr] at hK ⊢
          go_simp
          exact hK _ _ (hX.keep (by decide)) trivial rfl
        · obtain rfl := Option.some.inj ho
          have h12 : (v 59) = .pointer (some ⟨w.heap.size, 3, none⟩) := hd ⟨12, .data⟩ (by simp) rfl _ 59 rfl rfl
          have hP := hX.1 (notYet (m := 21) (i := 13) (by kernel_rfl) hC hu)
          have c0 := cell_keep hP s3
          simp only [hrFr, h12] at hK ⊢
          go_simp
          exact hK _ _ (hX.keep (by decide)) trivial rfl
        · obtain rfl := Option.some.inj ho
          have hP := hX.1 (notYet (m := 21) (i := 14) (by kernel_rfl) hC hu)
          have c0 := cell_keep hP t0
          have c1 := cell_keep hP t1
          simp only [hrFr] at hK ⊢
          go_simp
          exact hK _ _ (hX.keep (by decide)) trivial rfl
        · obtain rfl := Option.some.inj ho
          have h11 : (v 58) = .agg #[.int .i64 k.a, .int .i64 k.lo, .int .i64 k.hi, .int .i64 k.ppb, .int .i64 k.learnt, .int .i64 k.refused] := hd ⟨11, .data⟩ (by simp) rfl _ 58 rfl rfl
          have h13 : (v 60) = .int .i64 m.t4 := hd ⟨13, .data⟩ (by simp) rfl _ 60 rfl rfl
          have h14 : (v 61) = .agg #[.int .i64 al, .int .i64 ah] := hd ⟨14, .data⟩ (by simp) rfl _ 61 rfl rfl
          have hP := hX.1 (notYet (m := 21) (i := 15) (by kernel_rfl) hC hu)
          simp only [hrFr, h11, h13, h14] at hK ⊢
          go_simp
          refine (BG.out W2).mono ?_
          rintro e w2 ⟨q, rfl, hb2⟩
          exact hK _ _ (Phase.pre (notYet (m := 21) (i := 15) (by kernel_rfl) hC hu) (by decide) (below_then hP hb2)) trivial ⟨q, rfl⟩
        · obtain rfl := Option.some.inj ho
          have h15 : ∃ q : Bool, (v 62) = .tuple #[.agg #[.int .i64 k'.a, .int .i64 k'.lo, .int .i64 k'.hi, .int .i64 k'.ppb, .int .i64 k'.learnt, .int .i64 k'.refused], .bool q, .int .i64 0] := hd ⟨15, .data⟩ (by simp) rfl _ 62 rfl rfl
          obtain ⟨q, h15⟩ := h15
          simp only [hrFr, h15] at hK ⊢
          go_simp
          exact hK _ _ (hX.keep (by decide)) trivial ⟨q, rfl⟩
        · obtain rfl := Option.some.inj ho
          have h16 : ∃ q : Bool, (v 46) = .tuple #[.agg #[.int .i64 k'.a, .int .i64 k'.lo, .int .i64 k'.hi, .int .i64 k'.ppb, .int .i64 k'.learnt, .int .i64 k'.refused], .bool q, .int .i64 0] := hd ⟨16, .data⟩ (by simp) rfl _ 46 rfl rfl
          obtain ⟨q, h16⟩ := h16
          simp only [hrFr, h16] at hK ⊢
          go_simp
          exact hK _ _ (hX.keep (by decide)) trivial rfl
        · obtain rfl := Option.some.inj ho
          have h16 : ∃ q : Bool, (v 46) = .tuple #[.agg #[.int .i64 k'.a, .int .i64 k'.lo, .int .i64 k'.hi, .int .i64 k'.ppb, .int .i64 k'.learnt, .int .i64 k'.refused], .bool q, .int .i64 0] := hd ⟨16, .data⟩ (by simp) rfl _ 46 rfl rfl
          obtain ⟨q, h16⟩ := h16
          simp only [hrFr, h16] at hK ⊢
          go_simp
          exact hK _ _ (hX.keep (by decide)) trivial trivial
        · obtain rfl := Option.some.inj ho
          have h16 : ∃ q : Bool, (v 46) = .tuple #[.agg #[.int .i64 k'.a, .int .i64 k'.lo, .int .i64 k'.hi, .int .i64 k'.ppb, .int .i64 k'.learnt, .int .i64 k'.refused], .bool q, .int .i64 0] := hd ⟨16, .data⟩ (by simp) rfl _ 46 rfl rfl
          obtain ⟨q, h16⟩ := h16
          simp only [hrFr, h16] at hK ⊢
          go_simp
          exact hK _ _ (hX.keep (by decide)) trivial trivial
        · obtain rfl := Option.some.inj ho
          have h3 : (v 50) = .slice (some ⟨gb, 0, none⟩) n n := hd ⟨3, .data⟩ (by simp) rfl _ 50 rfl rfl
          have h4 : (v 51) = .int .i64 (i : Int) := hd ⟨4, .data⟩ (by simp) rfl _ 51 rfl rfl
          have hP := hX.1 (notYet (m := 21) (i := 20) (by kernel_rfl) hC hu)
          simp only [hrFr, h3, h4] at hK ⊢
          go_simp
          exact hK _ _ (hX.keep (by decide)) trivial rfl
        · obtain rfl := Option.some.inj ho
          have h17 : (v 63) = .agg #[.int .i64 k'.a, .int .i64 k'.lo, .int .i64 k'.hi, .int .i64 k'.ppb, .int .i64 k'.learnt, .int .i64 k'.refused] := hd ⟨17, .data⟩ (by simp) rfl _ 63 rfl rfl
          have h20 : (v 66) = .pointer (some ⟨gb, i * 6, none⟩) := hd ⟨20, .data⟩ (by simp) rfl _ 66 rfl rfl
          have hP := hX.1 hu
          have M3 := M2.out.keep hP
          have hy3 := M3.k.lt
          obtain ⟨c0, c1, c2, c3, c4, c5⟩ := cells6 M3.k k1 k2
          obtain ⟨x0, x1, x2, x3, x4, x5⟩ := froz6 M3.k (i * 6)
          simp only [hrFr, h17, h20] at hK ⊢
          go_simp
          exact hK undef _ (Phase.post ⟨_, hP, rfl⟩) trivial trivial
      case hend =>
        intro L v WE hX hall hF
        obtain hPost := hX.2 (hall 21 (by decide))
        obtain ⟨W2, hB, rfl⟩ := hPost
        have M3 := M2.out.keep hB
        clear hF hX hall
        have K6 := Lib.hid (set6 (z := some k) (k := k') M3.k k1 k2 (k3 _))
        have O2 := below_then hB2.out hB
        generalize hWc : ((((((W2.setCell ⟨gb, i * 6, none⟩ (.int .i64 k'.a)).setCell ⟨gb, i * 6 + 1, none⟩ (.int .i64 k'.lo)).setCell ⟨gb, i * 6 + 2, none⟩ (.int .i64 k'.hi)).setCell ⟨gb, i * 6 + 3, none⟩ (.int .i64 k'.ppb)).setCell ⟨gb, i * 6 + 4, none⟩ (.int .i64 k'.learnt)).setCell ⟨gb, i * 6 + 5, none⟩ (.int .i64 k'.refused)) = Wc at *
        have Bc := Lib.hid (show Blk Wc g _ _ by rw [← hWc]; exact (((((M3.b.far (p := ⟨_, _, _⟩) d2 _).far (p := ⟨_, _, _⟩) d2 _).far (p := ⟨_, _, _⟩) d2 _).far (p := ⟨_, _, _⟩) d2 _).far (p := ⟨_, _, _⟩) d2 _).far (p := ⟨_, _, _⟩) d2 _)
        have Sc := Lib.hid (show Blk Wc gs _ _ by rw [← hWc]; exact (((((M3.s.far (p := ⟨_, _, _⟩) d3 _).far (p := ⟨_, _, _⟩) d3 _).far (p := ⟨_, _, _⟩) d3 _).far (p := ⟨_, _, _⟩) d3 _).far (p := ⟨_, _, _⟩) d3 _).far (p := ⟨_, _, _⟩) d3 _)
        have Oc := Lib.hid (show Only gs gb w Wc by rw [← hWc]; exact ((((((Only.of O2).set (.inr rfl) _).set (.inr rfl) _).set (.inr rfl) _).set (.inr rfl) _).set (.inr rfl) _).set (.inr rfl) _)
        have FIN := Lib.hid (show HearPost (src.set i (some k')) own g gs gb n w (.returned (.tuple #[])) Wc from
          ⟨rfl, ⟨Bc.out, eB ▸ Sc.out, K6.out⟩, Oc.out⟩)
        clear hWc M3 hB O2 b1 b2 b3 k1 k2 k3
        unfold hrFr
        go_wp2
        go_end0
        exact FIN.out
  · rw [if_neg hac]
    have tc : (ac == 0) = false := by simp [hac]
    go_enter Tryz.func23, Tryz.ntmps23
    go_wp2_with fail
    refine (C.out _).mono ?_
    rintro e w1 ⟨rfl, hb1⟩
    have hB1 := below_then (below_alloc (Below.refl _ _) _) hb1
    have FIN := Lib.hid (show HearPost src own g gs gb n w (.returned (.tuple #[])) (w1.alloc (.cells #[.int .i64 al, .int .i64 ah] 51)) from ⟨rfl, (HM.out.keep hB1).keep (below_alloc (Below.refl _ _) _), .of (below_alloc hB1 _)⟩)
    clear hb1 hB1 hok C b1 b2 b3 k1 k2 k3
    go_wp2
    go_end0
    exact FIN.out
end Go.Proofs.YtnafhblioabkgaaGreat
/- The reference's layer 41: what a client knows is brought up to date. -/
namespace Go.Proofs.YtnafhblioabkgaaGreat
open Go.RowKit

theorem flat_reads {α : Type} {enc : α → List Value} {k : Nat} (hk : ∀ x, (enc x).length = k) {w : World} {g : Nat} {t : TypeId} {l : List α} (h : Blk w g t (l.flatMap enc).toArray) (hb : l.length ≤ 4611686018427387904) : RdL enc k w (g + 1) (some ⟨g, 0, none⟩) l.length l :=
  ⟨rfl, hb, fun _ => ⟨g, 0, rfl, Nat.lt_succ_self g, fun i x hx j u hu => by
    have hj : j < k := by rw [← hk x]; exact (List.getElem?_eq_some_iff.1 hu).1
    rw [Nat.zero_add, h.list_cell, flat_get hk l i x j hx hj, hu]⟩⟩
theorem span_of (R : Int × Int × Int) : v3 R = .returned (.tuple #[.agg #[.int .i64 R.1, .int .i64 R.2.1], .int .i64 R.2.2]) := rfl

def thF (g : Nat) (t lo hi2 : Int) (k k' : Kn) : Nat → Value → World → Prop
  | 0, x, _ => x = .pointer (some ⟨g, 0, none⟩)
  | 1, x, _ => x = .pointer (some ⟨g, 0, none⟩)
  | 2, x, _ => x = .pointer (some ⟨g, 0, none⟩)
  | 3, x, _ => x = .pointer (some ⟨g, 3, none⟩)
  | 4, x, _ => x = .agg #[.int .i64 k.a, .int .i64 k.lo, .int .i64 k.hi, .int .i64 k.ppb, .int .i64 k.learnt, .int .i64 k.refused]
  | 5, x, _ => x = .int .i64 t
  | 6, x, _ => x = .agg #[.int .i64 lo, .int .i64 hi2]
  | 7, x, _ => ∃ q : Bool, x = .tuple #[.agg #[.int .i64 k'.a, .int .i64 k'.lo, .int .i64 k'.hi, .int .i64 k'.ppb, .int .i64 k'.learnt, .int .i64 k'.refused], .bool q, .int .i64 0]
  | 8, x, _ => ∃ q : Bool, x = .tuple #[.agg #[.int .i64 k'.a, .int .i64 k'.lo, .int .i64 k'.hi, .int .i64 k'.ppb, .int .i64 k'.learnt, .int .i64 k'.refused], .bool q, .int .i64 0]
  | 9, x, _ => x = .agg #[.int .i64 k'.a, .int .i64 k'.lo, .int .i64 k'.hi, .int .i64 k'.ppb, .int .i64 k'.learnt, .int .i64 k'.refused]
  | 12, x, _ => x = .pointer (some ⟨g, 0, none⟩)
  | 13, x, _ => x = .pointer (some ⟨g, 3, none⟩)
  | _, _, _ => True
def thFr (g gb n m c2 z1 : Nat) (A2 : Option Addr) (t p f lo hi2 : Int) (v : Nat → Value) : Act := ⟨#[.pointer (some ⟨g, 0, none⟩), .int .i64 t, .int .i64 p, .int .i64 f, undef, undef, undef, undef, .slice A2 m c2, .int .i64 (n : Int), .pointer (some ⟨z1, 0, none⟩), .int .i64 0, .int .i64 (n : Int), .pointer (some ⟨g, 0, none⟩), .pointer (some ⟨g, 0, none⟩), .pointer (some ⟨g, 1, none⟩), .slice (some ⟨gb, 0, none⟩) n n, .int .i64 (n : Int), .bool false, v 19, v 20, v 21, v 22, v 23, v 24, v 25, v 26, v 27, v 28, v 29, v 30, v 31, v 32, v 33, v 34, v 35, v 36, v 37, .tuple #[.agg #[.int .i64 lo, .int .i64 hi2], .int .i64 0], .slice A2 m c2, .int .i64 t, .int .i64 f, .tuple #[.agg #[.int .i64 lo, .int .i64 hi2], .int .i64 0], .agg #[.int .i64 lo, .int .i64 hi2], .int .i64 0, .int .i64 0, .bool false, .pointer (some ⟨g, 0, none⟩), .pointer (some ⟨g, 0, none⟩), .pointer (some ⟨g, 2, none⟩), .bool true, .bool false, undef, undef, undef, undef, undef, undef, undef, undef, undef, undef, undef, undef, undef, v 65, v 66, v 67, v 68, v 69, v 70, v 71, v 72, v 73, v 74, v 75, v 76, v 77, v 78], []⟩
theorem thF_any {g : Nat} {t lo hi2 : Int} {k k' : Kn} {j : Nat} {x : Value} {w w' : World} (h : thF g t lo hi2 k k' j x w) : thF g t lo hi2 k k' j x w' := by
  unfold thF at *
  split at h
  all_goals first | exact h | trivial
theorem mset6 {w : World} {n g gs gb : Nat} {z : Option Kn} {k : Kn} {t : TypeId} (h : Blk w g t (mdC n gs gb z).toArray) : Blk ((((((w.setCell ⟨g, 3, none⟩ (.int .i64 k.a)).setCell ⟨g, 4, none⟩ (.int .i64 k.lo)).setCell ⟨g, 5, none⟩ (.int .i64 k.hi)).setCell ⟨g, 6, none⟩ (.int .i64 k.ppb)).setCell ⟨g, 7, none⟩ (.int .i64 k.learnt)).setCell ⟨g, 8, none⟩ (.int .i64 k.refused)) g t ([.slice (some ⟨gs, 0, none⟩) n n, .slice (some ⟨gb, 0, none⟩) n n, .bool z.isSome, .int .i64 k.a, .int .i64 k.lo, .int .i64 k.hi, .int .i64 k.ppb, .int .i64 k.learnt, .int .i64 k.refused] : List Value).toArray := by
  have h0 : Blk (w.setCell ⟨g, 3, none⟩ (.int .i64 k.a)) g t ([.slice (some ⟨gs, 0, none⟩) n n, .slice (some ⟨gb, 0, none⟩) n n, .bool z.isSome, .int .i64 k.a, .int .i64 (kn0 z).lo, .int .i64 (kn0 z).hi, .int .i64 (kn0 z).ppb, .int .i64 (kn0 z).learnt, .int .i64 (kn0 z).refused] : List Value).toArray := h.list_set 3 _
  have h1 : Blk ((w.setCell ⟨g, 3, none⟩ (.int .i64 k.a)).setCell ⟨g, 4, none⟩ (.int .i64 k.lo)) g t ([.slice (some ⟨gs, 0, none⟩) n n, .slice (some ⟨gb, 0, none⟩) n n, .bool z.isSome, .int .i64 k.a, .int .i64 k.lo, .int .i64 (kn0 z).hi, .int .i64 (kn0 z).ppb, .int .i64 (kn0 z).learnt, .int .i64 (kn0 z).refused] : List Value).toArray := h0.list_set 4 _
  have h2 : Blk (((w.setCell ⟨g, 3, none⟩ (.int .i64 k.a)).setCell ⟨g, 4, none⟩ (.int .i64 k.lo)).setCell ⟨g, 5, none⟩ (.int .i64 k.hi)) g t ([.slice (some ⟨gs, 0, none⟩) n n, .slice (some ⟨gb, 0, none⟩) n n, .bool z.isSome, .int .i64 k.a, .int .i64 k.lo, .int .i64 k.hi, .int .i64 (kn0 z).ppb, .int .i64 (kn0 z).learnt, .int .i64 (kn0 z).refused] : List Value).toArray := h1.list_set 5 _
  have h3 : Blk ((((w.setCell ⟨g, 3, none⟩ (.int .i64 k.a)).setCell ⟨g, 4, none⟩ (.int .i64 k.lo)).setCell ⟨g, 5, none⟩ (.int .i64 k.hi)).setCell ⟨g, 6, none⟩ (.int .i64 k.ppb)) g t ([.slice (some ⟨gs, 0, none⟩) n n, .slice (some ⟨gb, 0, none⟩) n n, .bool z.isSome, .int .i64 k.a, .int .i64 k.lo, .int .i64 k.hi, .int .i64 k.ppb, .int .i64 (kn0 z).learnt, .int .i64 (kn0 z).refused] : List Value).toArray := h2.list_set 6 _
  have h4 : Blk (((((w.setCell ⟨g, 3, none⟩ (.int .i64 k.a)).setCell ⟨g, 4, none⟩ (.int .i64 k.lo)).setCell ⟨g, 5, none⟩ (.int .i64 k.hi)).setCell ⟨g, 6, none⟩ (.int .i64 k.ppb)).setCell ⟨g, 7, none⟩ (.int .i64 k.learnt)) g t ([.slice (some ⟨gs, 0, none⟩) n n, .slice (some ⟨gb, 0, none⟩) n n, .bool z.isSome, .int .i64 k.a, .int .i64 k.lo, .int .i64 k.hi, .int .i64 k.ppb, .int .i64 k.learnt, .int .i64 (kn0 z).refused] : List Value).toArray := h3.list_set 7 _
  have h5 : Blk ((((((w.setCell ⟨g, 3, none⟩ (.int .i64 k.a)).setCell ⟨g, 4, none⟩ (.int .i64 k.lo)).setCell ⟨g, 5, none⟩ (.int .i64 k.hi)).setCell ⟨g, 6, none⟩ (.int .i64 k.ppb)).setCell ⟨g, 7, none⟩ (.int .i64 k.learnt)).setCell ⟨g, 8, none⟩ (.int .i64 k.refused)) g t ([.slice (some ⟨gs, 0, none⟩) n n, .slice (some ⟨gb, 0, none⟩) n n, .bool z.isSome, .int .i64 k.a, .int .i64 k.lo, .int .i64 k.hi, .int .i64 k.ppb, .int .i64 k.learnt, .int .i64 k.refused] : List Value).toArray := h4.list_set 8 _
  exact h5
def ThinkPost (src : List (Option Kn)) (own : Option Kn) (g gs gb n : Nat) (w : World) (e : Ending) (w' : World) : Prop :=
  e = .returned (.tuple #[]) ∧ Mind w' g gs gb n src own ∧ Only g g w w'
set_option maxHeartbeats 4000000 in
set_option maxRecDepth 100000 in
theorem rthink_ok (src : List (Option Kn)) (own : Option Kn) (g gs gb n : Nat) (t p f : Int) (w : World) (hM : Mind w g gs gb n src own) (hn : src.length = n) (n8 : n ≤ 8) (d1 : g ≠ gs) (d2 : g ≠ gb) (d3 : gs ≠ gb)
    (hv : ∀ k, some k ∈ src → k.goodAt t) (f0 : 0 ≤ f) (f1 : f ≤ 8) (ht : okT t = true) (p0 : 0 ≤ p) (p1 : p ≤ 1000000) (hko : ∀ k, own = some k → k.goodAt t)
    (hok : (agreeM (nowL t (src.filterMap id)) f).2.2 = 0 → okS (agreeM (nowL t (src.filterMap id)) f).1 (agreeM (nowL t (src.filterMap id)) f).2.1 = true) :
    Calls Tryz.prog 24 #[.pointer (some ⟨g, 0, none⟩), .int .i64 t, .int .i64 p, .int .i64 f] w
      (ThinkPost src (if (agreeM (nowL t (src.filterMap id)) f).2.2 = 0 then takeM own t (agreeM (nowL t (src.filterMap id)) f).1 (agreeM (nowL t (src.filterMap id)) f).2.1 p else own) g gs gb n w) := by
  obtain ⟨i0, hi, hz0, hz1, hz2⟩ := info_parts infoKn
  have HM := Lib.hid hM
  have hg := hM.b.lt
  have hgs := hM.s.lt
  have hgb := hM.k.lt
  have RS := Lib.hid (hn ▸ flat_reads (enc := encB) (k := 1) (fun _ => rfl) hM.s (by omega))
  have RK := Lib.hid (hn ▸ flat_reads (enc := encKb) (k := 6) (fun _ => rfl) hM.k (by omega))
  have hv' := Lib.hid hv
  have hn' := Lib.hid hn
  have MG := Lib.hid fun (A : Option Addr) (m c : Nat) (W : World) (h : RdL encKn 6 W W.heap.size A m (src.filterMap id)) (hm : m ≤ 8) => rMerge_ok A m c (src.filterMap id) t f W W.heap.size (Nat.le_refl _) h (by omega) (fun k hk => by
    rw [List.mem_filterMap] at hk
    obtain ⟨o, ho, e⟩ := hk
    exact hv k (by rw [show o = some k from e] at ho; exact ho)) f0 (by omega)
  generalize agreeM (nowL t (src.filterMap id)) f = R at *
  obtain ⟨O', hO⟩ : ∃ O', (if R.2.2 = 0 then takeM own t R.1 R.2.1 p else own) = O' := ⟨_, rfl⟩
  rw [hO]
  have hO' := Lib.hid hO
  have hok' := Lib.hid hok
  have hko' := Lib.hid hko
  have g1 : w.cell? ⟨g, 1, none⟩ = some (.slice (some ⟨gb, 0, none⟩) n n) := hM.b.list_cell 1
  have g0 : w.cell? ⟨g, 0, none⟩ = some (.slice (some ⟨gs, 0, none⟩) n n) := hM.b.list_cell 0
  clear hM hv hok hko hn hO
  go_enter Tryz.func24, Tryz.ntmps24
  go_wp2_with fail
  go_loopg [8, 9] n (fun gg v s9 wr => ∃ (k : Nat) (out : List Kn) (m : Nat), k ≤ n ∧ n - k ≤ gg ∧ s9 = .int .i64 k ∧ m ≤ k ∧ Hid (out.length = m) ∧ Hid (out = (src.take k).filterMap id) ∧ Hid (wr.ownsRow w.heap.size 64 6 v m (out.flatMap encKn)) ∧ Hid (Below w.heap.size w wr))
  case atStart => exact ⟨0, [], 0, Nat.zero_le _, by omega, rfl, by omega, Lib.hid rfl, Lib.hid rfl, Lib.hid (World.ownsRow_nil _ _ _ _), Lib.hid (Below.refl _ _)⟩
  case round =>
    obtain ⟨k, out, m, hk, hgg, rfl, hmk, hlen, hout, ho, hb⟩ := hrel
    have e1 := cell_keep hb.out g1
    have e0 := cell_keep hb.out g0
    by_cases hlt : k < n
    · obtain ⟨b, off, x, e9, hbB, hz, hc⟩ := (RS.out.below hb.out (by omega)).get hlt
      simp only [Option.some.injEq, Addr.mk.injEq, and_true] at e9
      obtain ⟨rfl, rfl⟩ := e9
      obtain ⟨b', off', x', e9, _, hz', hc'⟩ := (RK.out.below hb.out (by omega)).get hlt
      simp only [Option.some.injEq, Addr.mk.injEq, and_true] at e9
      obtain ⟨rfl, rfl⟩ := e9
      obtain rfl : x = x' := by rw [hz] at hz'; exact Option.some.inj hz'
      have hts := Lib.hid (filter_snoc hz)
      have q0 : wr.cell? ⟨gs, k, none⟩ = some (.bool x.isSome) := by have := hc 0 _ rfl; simpa using this
      clear hz hz' hc
      cases x with
      | none =>
        have H : Hid (out = (src.take (k + 1)).filterMap id) := Lib.hid (by rw [hts.out, ← hout.out]; simp)
        clear hc'
        go_wp2
        go_roundg (n - (k + 1))
        case rel => exact ⟨k + 1, out, m, by omega, Nat.le_refl _, by go_num, by omega, hlen, H, ho, hb⟩
        case measure => omega
      | some y =>
        have H : Hid (out ++ [y] = (src.take (k + 1)).filterMap id) := Lib.hid (by rw [hts.out, ← hout.out]; rfl)
        obtain ⟨c1, c2, c3, c4, c5, c6⟩ : wr.cell? ⟨gb, 0 + k * 6, none⟩ = some (.int .i64 y.a) ∧ wr.cell? ⟨gb, 0 + k * 6 + 1, none⟩ = some (.int .i64 y.lo) ∧ wr.cell? ⟨gb, 0 + k * 6 + 2, none⟩ = some (.int .i64 y.hi) ∧ wr.cell? ⟨gb, 0 + k * 6 + 3, none⟩ = some (.int .i64 y.ppb) ∧ wr.cell? ⟨gb, 0 + k * 6 + 4, none⟩ = some (.int .i64 y.learnt) ∧ wr.cell? ⟨gb, 0 + k * 6 + 5, none⟩ = some (.int .i64 y.refused) := ⟨hc' 0 _ rfl, hc' 1 _ rfl, hc' 2 _ rfl, hc' 3 _ rfl, hc' 4 _ rfl, hc' 5 _ rfl⟩
        simp only [Nat.zero_add] at c1 c2 c3 c4 c5 c6
        clear hc'
        have hsz : (m + 1) * 48 ≤ 140737488355328 := by omega
        go_wp2_with (at_builtin; refine wpList_append_own _ rfl (.tmp 28) (.tmp 36) 62 rfl w.heap.size 64 i0 _ 6 48 Tryz.underlying62 hi hz0 hz1 hz2 rfl (by decide) _ m (out.flatMap encKn) rfl ?c0 _ 1 1 [.int .i64 y.a, .int .i64 y.lo, .int .i64 y.hi, .int .i64 y.ppb, .int .i64 y.learnt, .int .i64 y.refused] rfl rfl ?c1 ?c2 ?c3 hsz ?c5 ?_)
        case c0 => exact ho.out.alloc _
        case c1 => exact World.news_of_block (cs := #[.int .i64 y.a, .int .i64 y.lo, .int .i64 y.hi, .int .i64 y.ppb, .int .i64 y.learnt, .int .i64 y.refused]) (t := 64) (fr := (0, 0)) (new_at (by simp))
        case c2 => simp [Value.oneCell']
        case c3 => unfold maxLen; omega
        case c5 => have := hb.out.size; simp; omega
        intro v2 w3 hown hgrow _
        have hb3 : Below w.heap.size w w3 := by
          refine Below.grown ?_ hgrow (by have := hb.out.size; simp; omega) (fun j hj => ?_)
          · repeat (with_reducible first | exact hb.out | refine below_alloc ?_ _)
          · exact (ho.out.lt j hj).1
        have hown3 : w3.ownsRow w.heap.size 64 6 v2 (m + 1) ((out ++ [y]).flatMap encKn) := by
          rw [List.flatMap_append]; exact hown
        have hl3 := Lib.hid (show (out ++ [y]).length = m + 1 by rw [List.length_append, hlen.out]; rfl)
        have K1 := Lib.hid hb3
        have K2 := Lib.hid hown3
        clear hown hgrow hb3 hown3
        go_wp2
        go_roundg (n - (k + 1))
        case rel => exact ⟨k + 1, _, m + 1, by omega, Nat.le_refl _, by go_num, by omega, hl3, H, K2, K1⟩
        case measure => omega
    · obtain rfl : n = k := by omega
      have hout' : out = src.filterMap id := by rw [hout.out, List.take_of_length_le (by rw [hn'.out]; omega)]
      obtain ⟨A2, c2, rfl, hrd⟩ := RdL.of_own (enc := encKn) (k := 6) (n := m) (fun _ => rfl) ho.out hlen.out (by omega)
      subst hout'
      have MM := Lib.hid (MG.out A2 m c2 wr hrd (by omega))
      have tl : decide ((n : Int) < n) = false := by simp
      clear hrd ho MG hlen hout
      go_wp2_with fail
      refine (MM.out).mono ?_
      rintro e w1 ⟨rfl, hb1⟩
      have B1 := Lib.hid (below_then hb.out hb1)
      have M1 := Lib.hid (HM.out.keep B1.out)
      have hz1 : w.heap.size ≤ w1.heap.size := B1.out.size
      clear hb1 e1 e0 MM hb
      dsimp only [v3]
      have fB := Lib.hid (show ∀ o, Below w1.heap.size w1 (w1.alloc o) from fun o => below_alloc (Below.refl _ _) o)
      by_cases hc : R.2.2 = 0
      · have hOO := hO'.out
        rw [if_pos hc] at hOO
        have hs := hok'.out hc
        clear hO' hok'
        obtain ⟨lo, hi2, cc⟩ := R
        dsimp only at *
        subst hc
        have y1 : g < w1.heap.size := M1.out.b.lt
        have e2 : w1.cell? ⟨g, 2, none⟩ = some (.bool own.isSome) := M1.out.b.list_cell 2
        cases own with
        | none =>
          have BG := Lib.hid fun W => rBegin_ok t lo hi2 p W hs ht p0 p1
          go_wp2_with fail
          refine (BG.out _).mono ?_
          rintro e w2 ⟨rfl, hb2⟩
          have hb3 := below_then (fB.out _) hb2
          have M3 := M1.out.keep hb3
          have O3 := below_then B1.out hb3
          have y4 : g < w2.heap.size := M3.b.lt
          have c2 := M3.b.list_cell 2
          have x2 := M3.b.frozen 2
          have c3 := M3.b.list_cell 3
          have x3 := M3.b.frozen 3
          have c4 := M3.b.list_cell 4
          have x4 := M3.b.frozen 4
          have c5 := M3.b.list_cell 5
          have x5 := M3.b.frozen 5
          have c6 := M3.b.list_cell 6
          have x6 := M3.b.frozen 6
          have c7 := M3.b.list_cell 7
          have x7 := M3.b.frozen 7
          have c8 := M3.b.list_cell 8
          have x8 := M3.b.frozen 8
          simp only [mdC, List.getElem?_cons_succ, List.getElem?_cons_zero] at c2 c3 c4 c5 c6 c7 c8
          have BM := mset6 (k := ⟨t, lo, hi2, p, 0, 0⟩) M3.b
          have BM2 := BM.list_set 2 (.bool true)
          have SM := M3.s
          have KM := M3.k
          obtain ⟨Wc, hWc⟩ : ∃ Wc, Wc = (((((((w2.setCell ⟨g, 3, none⟩ (.int .i64 t)).setCell ⟨g, 4, none⟩ (.int .i64 lo)).setCell ⟨g, 5, none⟩ (.int .i64 hi2)).setCell ⟨g, 6, none⟩ (.int .i64 p)).setCell ⟨g, 7, none⟩ (.int .i64 0)).setCell ⟨g, 8, none⟩ (.int .i64 0)).setCell ⟨g, 2, none⟩ (.bool true)) := ⟨_, rfl⟩
          have FIN := Lib.hid (show ThinkPost src O' g gs gb n w (.returned (.tuple #[])) Wc from by
            rw [← hOO]
            exact ⟨rfl, ⟨by rw [hWc]; exact BM2, by rw [hWc]; exact ((((((SM.far (p := ⟨_, _, _⟩) (Ne.symm d1) _).far (p := ⟨_, _, _⟩) (Ne.symm d1) _).far (p := ⟨_, _, _⟩) (Ne.symm d1) _).far (p := ⟨_, _, _⟩) (Ne.symm d1) _).far (p := ⟨_, _, _⟩) (Ne.symm d1) _).far (p := ⟨_, _, _⟩) (Ne.symm d1) _).far (p := ⟨_, _, _⟩) (Ne.symm d1) _, by rw [hWc]; exact ((((((KM.far (p := ⟨_, _, _⟩) (Ne.symm d2) _).far (p := ⟨_, _, _⟩) (Ne.symm d2) _).far (p := ⟨_, _, _⟩) (Ne.symm d2) _).far (p := ⟨_, _, _⟩) (Ne.symm d2) _).far (p := ⟨_, _, _⟩) (Ne.symm d2) _).far (p := ⟨_, _, _⟩) (Ne.symm d2) _).far (p := ⟨_, _, _⟩) (Ne.symm d2) _⟩, by rw [hWc]; repeat (with_reducible first | exact Only.of O3 | refine Only.set ?_ (.inl rfl) _)⟩)
          rw [hWc] at FIN
          clear BM BM2 SM KM M3 hWc hb2 hb3 O3 e2
          go_wp2
          go_end0
          exact FIN.out
        | some k =>
          have BG := Lib.hid fun W => rLearn_ok k t lo hi2 hs (hko'.out k rfl) W
          go_wp2_with fail
          obtain ⟨W1, hW1⟩ : ∃ W1, W1 = w1.alloc (.cells #[.int .i64 lo, .int .i64 hi2] 51) := ⟨_, rfl⟩
          have P1 := Lib.hid (show Blk W1 w1.heap.size 51 _ by rw [hW1]; exact Blk.new _ _ _)
          have M2 := Lib.hid (M1.out.keep (show Below w1.heap.size w1 W1 by rw [hW1]; exact fB.out _))
          have hB2 := Lib.hid (show Below w.heap.size w W1 by rw [hW1]; exact below_alloc B1.out _)
          rw [← hW1]
          clear hW1 e2
          obtain ⟨t0, t1, _, _⟩ := blk2 P1.out
          have y3 : W1.cell? ⟨g, 3, none⟩ = some (.int .i64 k.a) := M2.out.b.list_cell 3
          have y4 : W1.cell? ⟨g, 4, none⟩ = some (.int .i64 k.lo) := M2.out.b.list_cell 4
          have y5 : W1.cell? ⟨g, 5, none⟩ = some (.int .i64 k.hi) := M2.out.b.list_cell 5
          have y6 : W1.cell? ⟨g, 6, none⟩ = some (.int .i64 k.ppb) := M2.out.b.list_cell 6
          have y7 : W1.cell? ⟨g, 7, none⟩ = some (.int .i64 k.learnt) := M2.out.b.list_cell 7
          have y8 : W1.cell? ⟨g, 8, none⟩ = some (.int .i64 k.refused) := M2.out.b.list_cell 8
          subst hOO
          rw [learn_form]
          generalize k.learn t lo hi2 = k' at *
          refine wp_region_all (by kernel_rfl) (thFr g gb n m c2 w1.heap.size A2 t p f lo hi2) (fun j => match j with | 19 => u19 | 20 => u20 | 21 => u21 | 22 => u22 | 23 => u23 | 24 => u24 | 25 => u25 | 26 => u26 | 27 => u27 | 28 => u28 | 29 => u29 | 30 => u30 | 31 => u31 | 32 => u32 | 33 => u33 | 34 => u34 | 35 => u35 | 36 => u36 | 37 => u37 | _ => undef) (by rfl) (thF g t lo hi2 k k') (Phase 14 (fun W => Below W1.heap.size W1 W) (fun W => ∃ W2, Below W1.heap.size W1 W2 ∧ W = ((((((W2.setCell ⟨g, 3, none⟩ (.int .i64 k'.a)).setCell ⟨g, 4, none⟩ (.int .i64 k'.lo)).setCell ⟨g, 5, none⟩ (.int .i64 k'.hi)).setCell ⟨g, 6, none⟩ (.int .i64 k'.ppb)).setCell ⟨g, 7, none⟩ (.int .i64 k'.learnt)).setCell ⟨g, 8, none⟩ (.int .i64 k'.refused)))) (fun _ _ _ => True) (by kernel_rfl) (by kernel_rfl) ?hX0 (fun _ _ _ _ _ _ h _ => thF_any h) ?hdst ?hop ?hend
          case hX0 => exact ⟨fun _ => below_drew (Below.refl _ _), fun h => absurd h (by decide)⟩
          case hdst =>
            intro i o hi ho
            have hi' : i < 15 := hi
            obtain rfl | rfl | rfl | rfl | rfl | rfl | rfl | rfl | rfl | rfl | rfl | rfl | rfl | rfl | rfl : i = 0 ∨ i = 1 ∨ i = 2 ∨ i = 3 ∨ i = 4 ∨ i = 5 ∨ i = 6 ∨ i = 7 ∨ i = 8 ∨ i = 9 ∨ i = 10 ∨ i = 11 ∨ i = 12 ∨ i = 13 ∨ i = 14 := by omega
            all_goals
              obtain rfl := Option.some.inj ho
              exact ⟨rfl, fun _ _ => rfl⟩
          case hop =>
            intro i o L v W2 hi ho hu hC hX hd K hK
            have hi' : i < 15 := hi
            clear hi
            obtain rfl | rfl | rfl | rfl | rfl | rfl | rfl | rfl | rfl | rfl | rfl | rfl | rfl | rfl | rfl : i = 0 ∨ i = 1 ∨ i = 2 ∨ i = 3 ∨ i = 4 ∨ i = 5 ∨ i = 6 ∨ i = 7 ∨ i = 8 ∨ i = 9 ∨ i = 10 ∨ i = 11 ∨ i = 12 ∨ i = 13 ∨ i = 14 := by omega
            · obtain rfl := Option.some.inj ho
              have hP := hX.1 (notYet (m := 14) (i := 0) (by kernel_rfl) hC hu)
              simp only [thFr] at hK ⊢
              go_simp
              exact hK _ _ (hX.keep (by decide)) trivial rfl
            · obtain rfl := Option.some.inj ho
              have hP := hX.1 (notYet (m := 14) (i := 1) (by kernel_rfl) hC hu)
              simp only [thFr] at hK ⊢
              go_simp
              exact hK _ _ (hX.keep (by decide)) trivial rfl
            · obtain rfl := Option.some.inj ho
              have h1 : (v 67) = .pointer (some ⟨g, 0, none⟩) := hd ⟨1, .data⟩ (by simp) rfl _ 67 rfl rfl
              have hP := hX.1 (notYet (m := 14) (i := 2) (by kernel_rfl) hC hu)
              simp only [thFr, h1] at hK ⊢
              go_simp
              exact hK _ _ (hX.keep (by decide)) trivial rfl
            · obtain rfl := Option.some.inj ho
              have h2 : (v 68) = .pointer (some ⟨g, 0, none⟩) := hd ⟨2, .data⟩ (by simp) rfl _ 68 rfl rfl
              have hP := hX.1 (notYet (m := 14) (i := 3) (by kernel_rfl) hC hu)
              simp only [thFr, h2] at hK ⊢
              go_simp
              exact hK _ _ (hX.keep (by decide)) trivial rfl
            · obtain rfl := Option.some.inj ho
              have h3 : (v 69) = .pointer (some ⟨g, 3, none⟩) := hd ⟨3, .data⟩ (by simp) rfl _ 69 rfl rfl
              have hP := hX.1 (notYet (m := 14) (i := 4) (by kernel_rfl) hC hu)
              have c3 := cell_keep hP y3
              have c4 := cell_keep hP y4
              have c5 := cell_keep hP y5
              have c6 := cell_keep hP y6
              have c7 := cell_keep hP y7
              have c8 := cell_keep hP y8
              simp only [thFr, h3] at hK ⊢
              go_simp
              exact hK _ _ (hX.keep (by decide)) trivial rfl
            · obtain rfl := Option.some.inj ho
              have hP := hX.1 (notYet (m := 14) (i := 5) (by kernel_rfl) hC hu)
              simp only [thFr] at hK ⊢
              go_simp
              exact hK _ _ (hX.keep (by decide)) trivial rfl
            · obtain rfl := Option.some.inj ho
              have hP := hX.1 (notYet (m := 14) (i := 6) (by kernel_rfl) hC hu)
              have c0 := cell_keep hP t0
              have c1 := cell_keep hP t1
              simp only [thFr] at hK ⊢
              go_simp
              exact hK _ _ (hX.keep (by decide)) trivial rfl
            · obtain rfl := Option.some.inj ho
              have h4 : (v 70) = .agg #[.int .i64 k.a, .int .i64 k.lo, .int .i64 k.hi, .int .i64 k.ppb, .int .i64 k.learnt, .int .i64 k.refused] := hd ⟨4, .data⟩ (by simp) rfl _ 70 rfl rfl
              have h5 : (v 71) = .int .i64 t := hd ⟨5, .data⟩ (by simp) rfl _ 71 rfl rfl
              have h6 : (v 72) = .agg #[.int .i64 lo, .int .i64 hi2] := hd ⟨6, .data⟩ (by simp) rfl _ 72 rfl rfl
              have hP := hX.1 (notYet (m := 14) (i := 7) (by kernel_rfl) hC hu)
              simp only [thFr, h4, h5, h6] at hK ⊢
              go_simp
              refine (BG.out W2).mono ?_
              rintro e w2 ⟨q, rfl, hb2⟩
              exact hK _ _ (Phase.pre (notYet (m := 14) (i := 7) (by kernel_rfl) hC hu) (by decide) (below_then hP hb2)) trivial ⟨q, rfl⟩
            · obtain rfl := Option.some.inj ho
              have h7 : ∃ q : Bool, (v 73) = .tuple #[.agg #[.int .i64 k'.a, .int .i64 k'.lo, .int .i64 k'.hi, .int .i64 k'.ppb, .int .i64 k'.learnt, .int .i64 k'.refused], .bool q, .int .i64 0] := hd ⟨7, .data⟩ (by simp) rfl _ 73 rfl rfl
              obtain ⟨q, h7⟩ := h7
              simp only [thFr, h7] at hK ⊢
              go_simp
              exact hK _ _ (hX.keep (by decide)) trivial ⟨q, rfl⟩
            · obtain rfl := Option.some.inj ho
              have h8 : ∃ q : Bool, (v 65) = .tuple #[.agg #[.int .i64 k'.a, .int .i64 k'.lo, .int .i64 k'.hi, .int .i64 k'.ppb, .int .i64 k'.learnt, .int .i64 k'.refused], .bool q, .int .i64 0] := hd ⟨8, .data⟩ (by simp) rfl _ 65 rfl rfl
              obtain ⟨q, h8⟩ := h8
              simp only [thFr, h8] at hK ⊢
              go_simp
              exact hK _ _ (hX.keep (by decide)) trivial rfl
            · obtain rfl := Option.some.inj ho
              have h8 : ∃ q : Bool, (v 65) = .tuple #[.agg #[.int .i64 k'.a, .int .i64 k'.lo, .int .i64 k'.hi, .int .i64 k'.ppb, .int .i64 k'.learnt, .int .i64 k'.refused], .bool q, .int .i64 0] := hd ⟨8, .data⟩ (by simp) rfl _ 65 rfl rfl
              obtain ⟨q, h8⟩ := h8
              simp only [thFr, h8] at hK ⊢
              go_simp
              exact hK _ _ (hX.keep (by decide)) trivial trivial
            · obtain rfl := Option.some.inj ho
              have h8 : ∃ q : Bool, (v 65) = .tuple #[.agg #[.int .i64 k'.a, .int .i64 k'.lo, .int .i64 k'.hi, .int .i64 k'.ppb, .int .i64 k'.learnt, .int .i64 k'.refused], .bool q, .int .i64 0] := hd ⟨8, .data⟩ (by simp) rfl _ 65 rfl rfl
              obtain ⟨q, h8⟩ := h8
              simp only [thFr, h8] at hK ⊢
              go_simp
              exact hK _ _ (hX.keep (by decide)) trivial trivial
            · obtain rfl := Option.some.inj ho
              have h0 : (v 66) = .pointer (some ⟨g, 0, none⟩) := hd ⟨0, .data⟩ (by simp) rfl _ 66 rfl rfl
              simp only [thFr, h0] at hK ⊢
              go_simp
              exact hK _ _ (hX.keep (by decide)) trivial rfl
            · obtain rfl := Option.some.inj ho
              have h12 : (v 77) = .pointer (some ⟨g, 0, none⟩) := hd ⟨12, .data⟩ (by simp) rfl _ 77 rfl rfl
              simp only [thFr, h12] at hK ⊢
              go_simp
              exact hK _ _ (hX.keep (by decide)) trivial rfl
            · obtain rfl := Option.some.inj ho
              have h9 : (v 74) = .agg #[.int .i64 k'.a, .int .i64 k'.lo, .int .i64 k'.hi, .int .i64 k'.ppb, .int .i64 k'.learnt, .int .i64 k'.refused] := hd ⟨9, .data⟩ (by simp) rfl _ 74 rfl rfl
              have h13 : (v 78) = .pointer (some ⟨g, 3, none⟩) := hd ⟨13, .data⟩ (by simp) rfl _ 78 rfl rfl
              have hP := hX.1 hu
              have M3 := M2.out.keep hP
              have hy3 := M3.b.lt
              have c3 := M3.b.list_cell 3
              have x3 := M3.b.frozen 3
              have c4 := M3.b.list_cell 4
              have x4 := M3.b.frozen 4
              have c5 := M3.b.list_cell 5
              have x5 := M3.b.frozen 5
              have c6 := M3.b.list_cell 6
              have x6 := M3.b.frozen 6
              have c7 := M3.b.list_cell 7
              have x7 := M3.b.frozen 7
              have c8 := M3.b.list_cell 8
              have x8 := M3.b.frozen 8
              simp only [mdC, List.getElem?_cons_succ, List.getElem?_cons_zero] at c3 c4 c5 c6 c7 c8
              simp only [thFr, h9, h13] at hK ⊢
              go_simp
              exact hK undef _ (Phase.post ⟨_, hP, rfl⟩) trivial trivial
          case hend =>
            intro L v WE hX hall hF
            obtain hPost := hX.2 (hall 14 (by decide))
            obtain ⟨W2, hB, rfl⟩ := hPost
            have M3 := M2.out.keep hB
            clear hF hX hall
            have BM := Lib.hid (mset6 (k := k') M3.b)
            have O2 := below_then hB2.out hB
            obtain ⟨Wc, hWc⟩ : ∃ Wc, Wc = ((((((W2.setCell ⟨g, 3, none⟩ (.int .i64 k'.a)).setCell ⟨g, 4, none⟩ (.int .i64 k'.lo)).setCell ⟨g, 5, none⟩ (.int .i64 k'.hi)).setCell ⟨g, 6, none⟩ (.int .i64 k'.ppb)).setCell ⟨g, 7, none⟩ (.int .i64 k'.learnt)).setCell ⟨g, 8, none⟩ (.int .i64 k'.refused)) := ⟨_, rfl⟩
            rw [← hWc] at BM ⊢
            have FIN := Lib.hid (show ThinkPost src (some k') g gs gb n w (.returned (.tuple #[])) Wc from
              ⟨rfl, ⟨BM.out, by rw [hWc]; exact (((((M3.s.far (p := ⟨_, _, _⟩) (Ne.symm d1) _).far (p := ⟨_, _, _⟩) (Ne.symm d1) _).far (p := ⟨_, _, _⟩) (Ne.symm d1) _).far (p := ⟨_, _, _⟩) (Ne.symm d1) _).far (p := ⟨_, _, _⟩) (Ne.symm d1) _).far (p := ⟨_, _, _⟩) (Ne.symm d1) _, by rw [hWc]; exact (((((M3.k.far (p := ⟨_, _, _⟩) (Ne.symm d2) _).far (p := ⟨_, _, _⟩) (Ne.symm d2) _).far (p := ⟨_, _, _⟩) (Ne.symm d2) _).far (p := ⟨_, _, _⟩) (Ne.symm d2) _).far (p := ⟨_, _, _⟩) (Ne.symm d2) _).far (p := ⟨_, _, _⟩) (Ne.symm d2) _⟩, by rw [hWc]; repeat (with_reducible first | exact Only.of O2 | refine Only.set ?_ (.inl rfl) _)⟩)
            clear hWc M3 BM hB O2
            unfold thFr
            go_wp2
            go_end0
            exact FIN.out
      · have hOO := hO'.out
        rw [if_neg hc] at hOO
        subst hOO
        have tc : (R.2.2 == 0) = false := by simp [hc]
        have FIN := Lib.hid (show ThinkPost src own g gs gb n w (.returned (.tuple #[])) (w1.alloc (.cells #[.int .i64 R.1, .int .i64 R.2.1] 51)) from ⟨rfl, M1.out.keep (fB.out _), .of (below_alloc B1.out _)⟩)
        go_wp2
        go_end0
        exact FIN.out
end Go.Proofs.YtnafhblioabkgaaGreat
