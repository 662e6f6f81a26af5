/- sweep.Count, Least and the program's layer 35: on what most spans agree. -/
import Derived.Test.YtnafhblioabkgaaGreatPieces
import Derived.Test.YtnafhblioabkgaaGreatSpan
namespace Go.Proofs.YtnafhblioabkgaaGreat
open Go.RowKit

theorem Holds_ok (lo hi t : Int) (w : World) (h : okS lo hi = true) : Calls Tryz.prog 122 #[.agg #[.int .i64 lo, .int .i64 hi], .int .i64 t] w fun e w' => e = .returned (.bool (decide (lo ≤ t ∧ t ≤ hi))) ∧ Below w.heap.size w w' := by
  have V := Lib.hid fun W => okS_valid lo hi W h
  clear h
  by_cases h1 : lo ≤ t
  all_goals
    go_enter Tryz.func122, Tryz.ntmps122
    go_wp2_with fail
    refine (V.out _).mono ?_
    rintro e w1 ⟨rfl, hb1⟩
    obtain ⟨a0, a1, _, _⟩ := blk2 ((Blk.new _ _ _).keep hb1)
    have hB1 := Lib.hid (below_then (below_alloc (Below.refl _ _) _) hb1)
    clear hb1
    go_wp2
    go_ret
    exact ⟨ret_bool (by simp; omega), hB1.out⟩

theorem check1 (lo hi : Int) (w : World) : Calls Tryz.prog 128 #[.agg #[.int .i64 lo, .int .i64 hi]] w fun e w' => e = .returned (.bool (!okS lo hi)) ∧ Below w.heap.size w w' := by
  go_enter Tryz.func128, Tryz.ntmps128
  go_wp2_with (go_at_call 80; refine (interval_Valid _ _ _).mono ?_; rintro e w' ⟨rfl, hb⟩)
  go_ret
  exact ⟨rfl, below_then (below_alloc (Below.refl _ _) _) hb⟩

theorem sweep_check (A : Option Addr) (n c : Nat) (l : List (Int × Int)) (w : World) (B : Nat) (hB : B ≤ w.heap.size) (hr : RdL encSp 2 w B A n l) (hn' : n ≤ 64) (hv : ∀ s ∈ l, okS s.1 s.2 = true) :
    Calls Tryz.prog 121 #[.slice A n c] w fun e w' => e = .returned (.int .i64 0) ∧ Below w.heap.size w w' := by
  have e1 : ∀ args w, (callFunc 128 args).run Tryz.prog w = .ok (.enter 128 args) w := enters_of Tryz.func128 (by kernel_rfl) rfl
  have C := ContainsFunc_Sp 128 #[] (fun s => !okS s.1 s.2) A n c l w B e1 hB hr (fun W' x _ => check1 x.1 x.2 W')
  rw [show l.any (fun s => !okS s.1 s.2) = false from by rw [List.any_eq_false]; intro s hs; simp [hv s hs]] at C
  have C' := Lib.hid C
  have t1 : decide ((64 : Int) < (n : Int)) = false := by simp; omega
  clear C e1 hr hv hB
  go_enter Tryz.func121, Tryz.ntmps121
  go_wp2_with (go_at_call 124; refine (C'.out).mono ?_; rintro e w' ⟨rfl, hb⟩)
  go_ret
  exact ⟨rfl, hb⟩

def CntPost (w : World) (e : Ending) (w' : World) : Prop := ∃ k : Int, e = .returned (.tuple #[.int .i64 k, .int .i64 0]) ∧ Below w.heap.size w w'
set_option maxHeartbeats 1000000 in
theorem Count_ok (A : Option Addr) (n c : Nat) (l : List (Int × Int)) (w : World) (B : Nat) (hB : B ≤ w.heap.size) (hr : RdL encSp 2 w B A n l) (hn' : n ≤ 64) (hv : ∀ s ∈ l, okS s.1 s.2 = true) :
    Calls Tryz.prog 112 #[.slice A n c, .int .i64 0] w (CntPost w) := by
  have C := Lib.hid (sweep_check A n c l w B hB hr hn' hv)
  go_enter Tryz.func112, Tryz.ntmps112
  go_wp2_with fail
  refine (C.out).mono ?_
  rintro e w1 ⟨rfl, hb1⟩
  have hb1' := Lib.hid hb1
  have hr' := Lib.hid (hr.below hb1 hB)
  have hv' := Lib.hid hv
  clear hb1 hr hv C
  go_wp2_with fail
  go_loopg [7, 9, 17] n (fun gg s7 _ s17 wr => ∃ (k : Nat) (j : Int), k ≤ n ∧ n - k ≤ gg ∧ s17 = .int .i64 k ∧ s7 = .int .i64 j ∧ 0 ≤ j ∧ j ≤ k ∧ Hid (Below w1.heap.size w1 wr))
  case atStart => exact ⟨0, 0, Nat.zero_le _, by omega, rfl, rfl, by omega, by omega, Lib.hid (Below.refl _ _)⟩
  case round =>
    obtain ⟨k, j, hk, hg, rfl, rfl, j0, j1, hb⟩ := hrel
    by_cases hlt : k < n
    · obtain ⟨b, off, x, rfl, hbB, hz, hd, c0, c1⟩ := (hr'.out.below hb.out (Nat.le_trans hB hb1'.out.size)).getSp hlt
      have H := Lib.hid fun W => Holds_ok x.1 x.2 0 W (hv'.out x (List.mem_of_getElem? hz))
      clear hd hz
      by_cases hh : x.1 ≤ 0 ∧ 0 ≤ x.2
      · simp only [hh, and_self, decide_true] at H
        clear hh
        go_wp2_with fail
        refine (H.out _).mono ?_
        rintro e w2 ⟨rfl, hb2⟩
        have hB2 := Lib.hid (below_then (below_alloc hb.out _) hb2)
        clear hb2
        go_wp2
        go_roundg (n - (k + 1))
        case rel => exact ⟨k + 1, _, by omega, Nat.le_refl _, by go_num, rfl, by omega, by omega, hB2⟩
        case measure => omega
      · simp only [hh, decide_false] at H
        clear hh
        go_wp2_with fail
        refine (H.out _).mono ?_
        rintro e w2 ⟨rfl, hb2⟩
        have hB2 := Lib.hid (below_then (below_alloc hb.out _) hb2)
        clear hb2
        go_wp2
        go_roundg (n - (k + 1))
        case rel => exact ⟨k + 1, _, by omega, Nat.le_refl _, by go_num, rfl, by omega, by omega, hB2⟩
        case measure => omega
    · obtain rfl : k = n := by omega
      have hB2 := Lib.hid (below_then hb1'.out hb.out)
      go_wp2
      go_ret2
      exact ⟨_, rfl, hB2.out⟩

theorem quorum_check (A : Option Addr) (n c : Nat) (l : List (Int × Int)) (f : Int) (w : World) (B : Nat) (hB : B ≤ w.heap.size) (hr : RdL encSp 2 w B A n l) (hn' : n ≤ 64) (hv : ∀ s ∈ l, okS s.1 s.2 = true) (f0 : 0 ≤ f) (f1 : f ≤ 64) :
    Calls Tryz.prog 100 #[.slice A n c, .int .i64 f] w fun e w' => e = .returned (.int .i64 (if (n : Int) ≤ 2 * f then 4 else 0)) ∧ Below w.heap.size w w' := by
  have C := Lib.hid (Count_ok A n c l w B hB hr hn' hv)
  clear hr hv hB
  by_cases h1 : (n : Int) ≤ 2 * f
  · rw [if_pos h1]
    have t1 : decide (2 * f ≥ (n : Int)) = true := by simp; omega
    by_cases h2 : (n : Int) < f
    · have t2 : decide (f > (n : Int)) = true := by simp; omega
      go_enter Tryz.func100, Tryz.ntmps100
      go_wp2_with (go_at_call 112; refine (C.out).mono ?_; rintro e w' ⟨k, rfl, hb⟩)
      go_ret
      exact ⟨rfl, hb⟩
    · have t2 : decide (f > (n : Int)) = false := by simp; omega
      go_enter Tryz.func100, Tryz.ntmps100
      go_wp2_with (go_at_call 112; refine (C.out).mono ?_; rintro e w' ⟨k, rfl, hb⟩)
      go_ret
      exact ⟨rfl, hb⟩
  · rw [if_neg h1]
    have t1 : decide (2 * f ≥ (n : Int)) = false := by simp; omega
    have t2 : decide (f > (n : Int)) = false := by simp; omega
    go_enter Tryz.func100, Tryz.ntmps100
    go_wp2_with (go_at_call 112; refine (C.out).mono ?_; rintro e w' ⟨k, rfl, hb⟩)
    go_ret
    exact ⟨rfl, hb⟩

def LePost (N : Nat) (R : List (Int × Int)) (w : World) (e : Ending) (w' : World) : Prop :=
  ∃ A c, e = .returned (.tuple #[.slice A R.length c, .int .i64 0]) ∧ R.length ≤ N ∧ RdL encSp 2 w' w'.heap.size A R.length R ∧ Below w.heap.size w w'
theorem Least_ok (A : Option Addr) (n c : Nat) (l : List (Int × Int)) (f : Int) (w : World) (B : Nat) (hB : B ≤ w.heap.size) (hr : RdL encSp 2 w B A n l) (hn : 0 < n) (hn' : n ≤ 64) (hv : ∀ s ∈ l, okS s.1 s.2 = true) (f0 : 1 ≤ f) :
    Calls Tryz.prog 113 #[.slice A n c, .int .i64 f] w (LePost (n + n) (leastL f (Sw.goC pushP (Sw.cnt l) (Sw.cuts l) []) []) w) := by
  have C := Lib.hid (sweep_check A n c l w B hB hr hn' hv)
  have hr' := Lib.hid hr
  have L := Lib.hid fun (W : World) (hW : B ≤ W.heap.size) (hR : RdL encSp 2 W B A n l) => least_ok A n c l f W B hW hR hn hn' hv
  clear hr hv
  generalize leastL f (Sw.goC pushP (Sw.cnt l) (Sw.cuts l) []) [] = R at *
  have t1 : decide (f < 1) = false := by simp; omega
  go_enter Tryz.func113, Tryz.ntmps113
  go_wp2_with fail
  refine (C.out).mono ?_
  rintro e w1 ⟨rfl, hb1⟩
  have hb1' := Lib.hid hb1
  have L1 := Lib.hid (L.out w1 (Nat.le_trans hB hb1.size) (hr'.out.below hb1 hB))
  clear hb1 C L
  go_wp2_with fail
  refine (L1.out).mono ?_
  rintro e w2 ⟨v, rfl, hl, hb, hown, hb2⟩
  obtain ⟨A2, c2, rfl, hrd⟩ := RdL.of_own (enc := encSp) (k := 2) (n := R.length) (fun _ => rfl) hown rfl (by omega)
  have K : LePost (n + n) R w (.returned (.tuple #[.slice A2 R.length c2, .int .i64 0])) w2 := ⟨_, _, rfl, hl, hrd, below_then hb1'.out hb2⟩
  have K' := Lib.hid K
  clear K hrd hb2 hown hb hl
  generalize R.length = m at *
  go_wp2
  go_ret2
  exact K'.out

/-- From the first Lo to the last Hi. -/
def hullL : List (Int × Int) → Option (Int × Int)
  | [] => none
  | s :: r => some (s.1, ((s :: r).getLast (by simp)).2)
theorem hullL_some {R : List (Int × Int)} {m : Nat} (h : R.length = m + 1) {x y : Int × Int} (hx : R[0]? = some x) (hy : R[m]? = some y) : hullL R = some (x.1, y.2) := by
  cases R with
  | nil => simp at h
  | cons s r =>
    simp only [hullL, Option.some.injEq, Prod.mk.injEq]
    refine ⟨by simp at hx; rw [hx], ?_⟩
    rw [List.getLast_eq_getElem]
    have : (s :: r).length - 1 = m := by omega
    rw [List.getElem?_eq_getElem (by omega)] at hy
    simp only [this]
    rw [Option.some.inj hy]
def agV (o : Option (Int × Int)) : Ending := match o with
  | none => .returned (.tuple #[.agg #[.int .i64 0, .int .i64 0], .bool false])
  | some z => .returned (.tuple #[.agg #[.int .i64 z.1, .int .i64 z.2], .bool true])
set_option maxHeartbeats 1000000 in
theorem agree_ok (A : Option Addr) (n c : Nat) (l : List (Int × Int)) (f : Int) (w : World) (B : Nat) (hB : B ≤ w.heap.size) (hr : RdL encSp 2 w B A n l) (hn : 0 < n) (hn' : n ≤ 64) (hv : ∀ s ∈ l, okS s.1 s.2 = true) (f0 : 1 ≤ f) :
    Calls Tryz.prog 101 #[.slice A n c, .int .i64 f] w fun e w' => e = agV (hullL (leastL f (Sw.goC pushP (Sw.cnt l) (Sw.cuts l) []) [])) ∧ Below w.heap.size w w' := by
  have L := Lib.hid fun (W : World) (hW : B ≤ W.heap.size) (hR : RdL encSp 2 W B A n l) => Least_ok A n c l f W B hW hR hn hn' hv f0
  have hr' := Lib.hid hr
  clear hr hv
  generalize leastL f (Sw.goC pushP (Sw.cnt l) (Sw.cuts l) []) [] = R at *
  have L1 := Lib.hid (L.out (w.alloc (.cells #[.int .i64 0, .int .i64 0] 51)) (by simp; omega) (hr'.out.alloc hB _))
  clear L
  go_enter Tryz.func101, Tryz.ntmps101
  go_wp2_with fail
  refine (L1.out).mono ?_
  rintro e w1 ⟨A2, c2, rfl, hl, hrd, hb1⟩
  have hB1 := Lib.hid (below_then (below_alloc (Below.refl _ _) _) hb1)
  have hz1 : w.heap.size < w1.heap.size := by have := hb1.size; simp at this; omega
  obtain ⟨g0, g1, f0, f1⟩ := blk2 ((Blk.new w _ _).keep hb1)
  have hrd' := Lib.hid hrd
  clear hb1 hrd
  generalize hm : R.length = m at *
  have hm' := Lib.hid hm
  clear hm
  cases m with
  | zero =>
    obtain rfl : R = [] := List.eq_nil_of_length_eq_zero hm'.out
    go_wp2
    exact bodyPost_ret (v := .tuple #[.agg #[.int .i64 0, .int .i64 0], .bool false]) (by rw [results_cell_tmp Tryz.results101]; go_simp) rfl ⟨rfl, by repeat (with_reducible first | exact hB1.out | refine below_alloc ?_ _ | refine below_set ?_ (by omega) _)⟩
  | succ m =>
    obtain ⟨b, off, x, rfl, hbB, hx, hd, c0, c1⟩ := hrd'.out.getSp (show 0 < m + 1 by omega)
    obtain ⟨b', off', y, e9, hbB', hy, hd', d0, d1⟩ := hrd'.out.getSp (show m < m + 1 by omega)
    simp only [Option.some.injEq, Addr.mk.injEq, and_true] at e9
    obtain ⟨rfl, rfl⟩ := e9
    have HH := Lib.hid (hullL_some hm'.out hx hy)
    simp only [Nat.zero_mul, Nat.add_zero] at c0 c1
    have q1 : IntKind.i64.wrap ((m : Int) + 1 - 1) = (m : Int) := by rw [show (m : Int) + 1 - 1 = m from by omega]; exact IntWalk.i64_in _ (by omega)
    have q2 : (0 : Int) < (m : Int) + 1 := by omega
    have q3 : (0 : Int) ≤ (m : Int) := by omega
    have q4 : (m : Int) < (m : Int) + 1 := by omega
    clear hd hd' hx hy d0 c1 hrd'
    go_wp2
    go_region
    all_goals
      go_wp2
      exact bodyPost_ret (v := .tuple #[.agg #[.int .i64 x.1, .int .i64 y.2], .bool true]) (by rw [results_cell_tmp Tryz.results101]; go_simp) rfl ⟨by rw [HH.out]; rfl, by repeat (with_reducible first | exact hB1.out | refine below_alloc ?_ _ | refine below_drew ?_ | refine below_set ?_ (by omega) _)⟩

/-- What most spans agree on, and the error's code. -/
def agreeM (l : List (Int × Int)) (f : Int) : Int × Int × Int :=
  if (l.length : Int) ≤ 2 * f then (0, 0, 4)
  else match hullL (leastL (l.length - f) (Sw.goC pushP (Sw.cnt l) (Sw.cuts l) []) []) with
    | none => (0, 0, 21)
    | some z => (z.1, z.2, 0)
def v3 (r : Int × Int × Int) : Ending := .returned (.tuple #[.agg #[.int .i64 r.1, .int .i64 r.2.1], .int .i64 r.2.2])
set_option maxHeartbeats 1000000 in
theorem Agree_ok (A : Option Addr) (n c : Nat) (l : List (Int × Int)) (f : Int) (w : World) (B : Nat) (hB : B ≤ w.heap.size) (hr : RdL encSp 2 w B A n l) (hn' : n ≤ 64) (hv : ∀ s ∈ l, okS s.1 s.2 = true) (f0 : 0 ≤ f) (f1 : f ≤ 64) :
    Calls Tryz.prog 82 #[.slice A n c, .int .i64 f] w fun e w' => e = v3 (agreeM l f) ∧ Below w.heap.size w w' := by
  have hl := hr.len
  have L := Lib.hid fun (W : World) (hW : B ≤ W.heap.size) (hR : RdL encSp 2 W B A n l) => quorum_check A n c l f W B hW hR hn' hv f0 f1
  have hr' := Lib.hid hr
  have L1 := Lib.hid (L.out (w.alloc (.cells #[.int .i64 0, .int .i64 0] 51)) (by simp; omega) (hr'.out.alloc hB _))
  unfold agreeM
  rw [hl]
  clear L hr
  by_cases h1 : (n : Int) ≤ 2 * f
  · rw [if_pos h1] at L1
    rw [if_pos h1]
    go_enter Tryz.func82, Tryz.ntmps82
    go_wp2_with fail
    refine (L1.out).mono ?_
    rintro e w1 ⟨rfl, hb1⟩
    have hB1 := Lib.hid (below_then (below_alloc (Below.refl _ _) _) hb1)
    have hz1 : w.heap.size < w1.heap.size := by have := hb1.size; simp at this; omega
    obtain ⟨g0, g1, f0, f1⟩ := blk2 ((Blk.new w _ _).keep hb1)
    clear hb1
    go_wp2
    exact bodyPost_ret (v := .tuple #[.agg #[.int .i64 0, .int .i64 0], .int .i64 4]) (by rw [results_cell_tmp Tryz.results82]; go_simp) rfl ⟨rfl, by repeat (with_reducible first | exact hB1.out | refine below_alloc ?_ _ | refine below_set ?_ (by omega) _)⟩
  · rw [if_neg h1] at L1
    rw [if_neg h1]
    have q1 : IntKind.i64.wrap ((n : Int) - f) = (n : Int) - f := IntWalk.i64_in _ (by omega)
    have G := Lib.hid fun (W : World) (hW : B ≤ W.heap.size) (hR : RdL encSp 2 W B A n l) => agree_ok A n c l ((n : Int) - f) W B hW hR (by omega) hn' hv (by omega)
    clear hv
    generalize hullL (leastL ((n : Int) - f) (Sw.goC pushP (Sw.cnt l) (Sw.cuts l) []) []) = o at *
    go_enter Tryz.func82, Tryz.ntmps82
    go_wp2_with fail
    refine (L1.out).mono ?_
    rintro e w1 ⟨rfl, hb1⟩
    have hB1 := Lib.hid (below_then (below_alloc (Below.refl _ _) _) hb1)
    have hz1 : w.heap.size < w1.heap.size := by have := hb1.size; simp at this; omega
    have G0 := Lib.hid ((Blk.new w _ _).keep hb1)
    have G1 := Lib.hid (G.out w1 (by omega) (hr'.out.below hB1.out hB))
    clear hb1 G
    go_wp2_with fail
    refine (G1.out).mono ?_
    rintro e w2 ⟨rfl, hb2⟩
    have hB2 := Lib.hid (below_then hB1.out hb2)
    have hz2 : w.heap.size < w2.heap.size := by have := hb2.size; omega
    obtain ⟨g0, g1, f0, f1⟩ := blk2 (G0.out.keep hb2)
    clear hb2 G1 G0
    cases o with
    | none =>
      dsimp only [agV]
      go_wp2
      exact bodyPost_ret (v := .tuple #[.agg #[.int .i64 0, .int .i64 0], .int .i64 21]) (by rw [results_cell_tmp Tryz.results82]; go_simp) rfl ⟨rfl, by repeat (with_reducible first | exact hB2.out | refine below_alloc ?_ _ | refine below_set ?_ (by omega) _)⟩
    | some z =>
      dsimp only [agV]
      go_wp2
      exact bodyPost_ret (v := .tuple #[.agg #[.int .i64 z.1, .int .i64 z.2], .int .i64 0]) (by rw [results_cell_tmp Tryz.results82]; go_simp) rfl ⟨rfl, by repeat (with_reducible first | exact hB2.out | refine below_alloc ?_ _ | refine below_set ?_ (by omega) _)⟩
end Go.Proofs.YtnafhblioabkgaaGreat
