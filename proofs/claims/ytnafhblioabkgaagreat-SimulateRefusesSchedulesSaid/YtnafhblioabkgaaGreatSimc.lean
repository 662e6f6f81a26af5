/- simulate.Check: the first error of a schedule. -/
import Derived.Test.YtnafhblioabkgaaGreatFits
namespace Go.Proofs.YtnafhblioabkgaaGreat
open Go.RowKit

set_option maxHeartbeats 4000000 in
set_option maxRecDepth 100000 in
theorem Check_ok (s : Sch) (A A' : Option Addr) (c c' : Nat) (w : World) (B : Nat) (hB : B ≤ w.heap.size) (he : RdL encI 1 w B A s.errs.length s.errs) (hs : RdL encStp 11 w B A' s.steps.length s.steps) :
    Calls Tryz.prog 15 #[vSch s A c A' c'] w fun e w' => e = .returned (.int .i64 s.code) ∧ Below w.heap.size w w' := by
  have L := Lib.hid fun (W : World) (hb : Below w.heap.size w W) => lengths_ok A _ c s.errs W B (Nat.le_trans hB hb.size) (he.below hb hB)
  have S := Lib.hid fun (x : Stp) (W : World) (p0 : 0 ≤ s.ppb) (p1 : s.ppb ≤ 1000000) => step_ok s x A A' c c' s.errs.length s.steps.length W p0 p1
  have N1 := Lib.hid fun W => near_ok s.start W
  have N2 := Lib.hid fun W => near_ok s.loc W
  have hs' := Lib.hid hs
  clear hs he
  obtain ⟨start, loc, ppb, liars, aim, errs, steps⟩ := s
  dsimp only [vSch] at *
  unfold Sch.code
  dsimp only
  generalize hn : errs.length = n at *
  generalize hm : steps.length = m at *
  clear hn
  by_cases g1 : n < 1
  · rw [if_pos (.inl g1)]
    have t1 : decide ((n : Int) < 1) = true := by simp; omega
    clear L S N1 N2 hs'
    go_enter Tryz.func15, Tryz.ntmps15
    go_wp2
    go_ret
    exact ⟨rfl, below_alloc (Below.refl _ _) _⟩
  have t1 : decide ((n : Int) < 1) = false := by simp; omega
  by_cases g2 : 8 < n
  · rw [if_pos (.inr (.inl g2))]
    have t2 : decide ((n : Int) > 8) = true := by simp; omega
    clear L S N1 N2 hs'
    go_enter Tryz.func15, Tryz.ntmps15
    go_wp2
    go_ret
    exact ⟨rfl, below_alloc (Below.refl _ _) _⟩
  have t2 : decide ((n : Int) > 8) = false := by simp; omega
  by_cases g3 : 64 < m
  · rw [if_pos (.inr (.inr g3))]
    have t3 : decide ((m : Int) > 64) = true := by simp; omega
    clear L S N1 N2 hs'
    go_enter Tryz.func15, Tryz.ntmps15
    go_wp2
    go_ret
    exact ⟨rfl, below_alloc (Below.refl _ _) _⟩
  have t3 : decide ((m : Int) > 64) = false := by simp; omega
  rw [if_neg (show ¬ (n < 1 ∨ 8 < n ∨ 64 < m) by omega)]
  cases q0 : nearB start
  case false =>
    rw [q0] at N1
    clear L S hs'
    go_enter Tryz.func15, Tryz.ntmps15
    go_wp2_with fail
    refine (N1.out _).mono ?_
    rintro e w' ⟨rfl, rfl⟩
    go_wp2
    go_ret
    exact ⟨rfl, below_alloc (Below.refl _ _) _⟩
  rw [q0] at N1
  cases q1 : nearB loc
  case false =>
    rw [q1] at N2
    clear L S hs'
    go_enter Tryz.func15, Tryz.ntmps15
    go_wp2_with fail
    refine (N1.out _).mono ?_
    rintro e w' ⟨rfl, rfl⟩
    go_wp2_with fail
    refine (N2.out _).mono ?_
    rintro e w' ⟨rfl, rfl⟩
    go_wp2
    go_ret
    exact ⟨rfl, below_alloc (Below.refl _ _) _⟩
  rw [q1] at N2
  cases q2 : decide (ppb < 0)
  case true =>
    clear L S hs'
    go_enter Tryz.func15, Tryz.ntmps15
    go_wp2_with fail
    refine (N1.out _).mono ?_
    rintro e w' ⟨rfl, rfl⟩
    go_wp2_with fail
    refine (N2.out _).mono ?_
    rintro e w' ⟨rfl, rfl⟩
    go_wp2
    go_ret
    exact ⟨rfl, below_alloc (Below.refl _ _) _⟩
  cases q3 : decide (ppb > 1000000)
  case true =>
    clear L S hs'
    go_enter Tryz.func15, Tryz.ntmps15
    go_wp2_with fail
    refine (N1.out _).mono ?_
    rintro e w' ⟨rfl, rfl⟩
    go_wp2_with fail
    refine (N2.out _).mono ?_
    rintro e w' ⟨rfl, rfl⟩
    go_wp2
    go_ret
    exact ⟨rfl, below_alloc (Below.refl _ _) _⟩
  cases q4 : decide (aim < 0)
  case true =>
    clear L S hs'
    go_enter Tryz.func15, Tryz.ntmps15
    go_wp2_with fail
    refine (N1.out _).mono ?_
    rintro e w' ⟨rfl, rfl⟩
    go_wp2_with fail
    refine (N2.out _).mono ?_
    rintro e w' ⟨rfl, rfl⟩
    go_wp2
    go_ret
    exact ⟨rfl, below_alloc (Below.refl _ _) _⟩
  cases q5 : decide (aim > 1000)
  case true =>
    clear L S hs'
    go_enter Tryz.func15, Tryz.ntmps15
    go_wp2_with fail
    refine (N1.out _).mono ?_
    rintro e w' ⟨rfl, rfl⟩
    go_wp2_with fail
    refine (N2.out _).mono ?_
    rintro e w' ⟨rfl, rfl⟩
    go_wp2
    go_ret
    exact ⟨rfl, below_alloc (Below.refl _ _) _⟩
  cases q6 : decide (liars < 0)
  case true =>
    clear L S hs'
    go_enter Tryz.func15, Tryz.ntmps15
    go_wp2_with fail
    refine (N1.out _).mono ?_
    rintro e w' ⟨rfl, rfl⟩
    go_wp2_with fail
    refine (N2.out _).mono ?_
    rintro e w' ⟨rfl, rfl⟩
    go_wp2
    go_ret
    exact ⟨rfl, below_alloc (Below.refl _ _) _⟩
  cases q7 : decide (liars > n)
  case true =>
    clear L S hs'
    go_enter Tryz.func15, Tryz.ntmps15
    go_wp2_with fail
    refine (N1.out _).mono ?_
    rintro e w' ⟨rfl, rfl⟩
    go_wp2_with fail
    refine (N2.out _).mono ?_
    rintro e w' ⟨rfl, rfl⟩
    go_wp2
    go_ret
    exact ⟨rfl, below_alloc (Below.refl _ _) _⟩
  have hw : IntKind.i64.wrap (2 * liars) = 2 * liars := IntWalk.i64_in _ (by simp at q6 q7; omega)
  cases q8 : decide (2 * liars ≥ n)
  case true =>
    clear L S hs'
    go_enter Tryz.func15, Tryz.ntmps15
    go_wp2_with fail
    refine (N1.out _).mono ?_
    rintro e w' ⟨rfl, rfl⟩
    go_wp2_with fail
    refine (N2.out _).mono ?_
    rintro e w' ⟨rfl, rfl⟩
    go_wp2
    go_ret
    exact ⟨rfl, below_alloc (Below.refl _ _) _⟩
  cases q9 : errs.all lenB
  case false =>
    rw [q9] at L
    clear S hs'
    go_enter Tryz.func15, Tryz.ntmps15
    go_wp2_with fail
    refine (N1.out _).mono ?_
    rintro e w' ⟨rfl, rfl⟩
    go_wp2_with fail
    refine (N2.out _).mono ?_
    rintro e w' ⟨rfl, rfl⟩
    go_wp2_with fail
    refine (L.out _ (below_alloc (Below.refl _ _) _)).mono ?_
    rintro e w1 ⟨rfl, hb1⟩
    have G0 := Lib.hid ((Blk.new w _ _).keep hb1)
    have hB1 := Lib.hid (below_then (below_alloc (Below.refl _ _) _) hb1)
    have hz1 : w.heap.size < w1.heap.size := by have := hb1.size; simp at this; omega
    clear hb1
    go_wp2
    go_ret
    exact ⟨rfl, hB1.out⟩
  rw [q9] at L
  show Calls _ _ _ _ fun e w' => e = .returned (.int .i64 (stepsM n ppb steps)) ∧ _
  have S' := Lib.hid fun x W => S.out x W (by simp at q2; omega) (by simp at q3; omega)
  clear S q9
  generalize hR : stepsM n ppb steps = R at *
  have hR' := Lib.hid hR
  clear hR
  have hm' := Lib.hid hm
  clear hm
  go_enter Tryz.func15, Tryz.ntmps15
  go_wp2_with fail
  refine (N1.out _).mono ?_
  rintro e w' ⟨rfl, rfl⟩
  go_wp2_with fail
  refine (N2.out _).mono ?_
  rintro e w' ⟨rfl, rfl⟩
  go_wp2_with fail
  refine (L.out _ (below_alloc (Below.refl _ _) _)).mono ?_
  rintro e w1 ⟨rfl, hb1⟩
  have G0 := Lib.hid ((Blk.new w _ _).keep hb1)
  have hB1 := Lib.hid (below_then (below_alloc (Below.refl _ _) _) hb1)
  have hz1 : w.heap.size < w1.heap.size := by have := hb1.size; simp at this; omega
  clear hb1
  obtain ⟨z0, z1, z2, z3, z4, z5, z6⟩ := blk7 G0.out
  go_wp2
  clear z0 z1 z2 z3 z4 z5 z6
  go_loopg [5, 6, 79] m (fun gg _ _ s79 wr => ∃ k : Nat, k ≤ m ∧ m - k ≤ gg ∧ s79 = .int .i64 k ∧ Hid (Below w1.heap.size w1 wr) ∧ Hid (stepsM n ppb (steps.drop k) = R))
  case atStart => exact ⟨0, Nat.zero_le _, by omega, rfl, Lib.hid (Below.refl _ _), Lib.hid (by simpa using hR'.out)⟩
  case round =>
    obtain ⟨k, hk, hg, rfl, hb, hRk⟩ := hrel
    by_cases hlt : k < m
    · have hBr := Lib.hid (below_then hB1.out hb.out)
      obtain ⟨b, off, x, rfl, hbB, hz, hd, c0, c1, c2, c3, c4, c5, c6, c7, c8, c9, c10⟩ := (hs'.out.below hBr.out hB).getStp hlt
      have Sx := Lib.hid fun W => S'.out x W
      have hRx : (if stepM n ppb x = 0 then stepsM n ppb (steps.drop (k + 1)) else stepM n ppb x) = R := by rw [← hRk.out, hd]; rfl
      generalize stepM n ppb x = y at *
      have hzr : w.heap.size < wr.heap.size := by have := hb.out.size; omega
      obtain ⟨z0, z1, z2, z3, z4, z5, z6⟩ := blk7 (G0.out.keep hb.out)
      clear hd hz
      go_wp2_with fail
      refine (Sx.out _).mono ?_
      rintro e w2 ⟨rfl, hb2⟩
      have hB2 := Lib.hid (below_then (below_alloc hb.out _) hb2)
      have hB3 := Lib.hid (below_then hB1.out hB2.out)
      clear hb2 z0 z1 z2 z3 z4 z5 z6
      by_cases hy : y = 0
      · rw [if_pos hy] at hRx
        have H := Lib.hid hRx
        subst hy
        clear hRx
        go_wp2
        go_roundg (m - (k + 1))
        case rel => exact ⟨k + 1, by omega, Nat.le_refl _, by go_num, hB2, H⟩
        case measure => omega
      · rw [if_neg hy] at hRx
        subst hRx
        go_wp2
        go_ret
        exact ⟨rfl, hB3.out⟩
    · obtain rfl : k = m := by omega
      have hB3 := Lib.hid (below_then hB1.out hb.out)
      have hRR : R = 0 := by rw [← hRk.out, List.drop_eq_nil_of_le (by rw [hm'.out]; omega)]; rfl
      subst hRR
      go_wp2
      go_ret
      exact ⟨rfl, hB3.out⟩
end Go.Proofs.YtnafhblioabkgaaGreat

