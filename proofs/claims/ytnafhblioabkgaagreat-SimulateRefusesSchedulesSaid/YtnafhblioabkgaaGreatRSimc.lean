/- The reference: the first error of a schedule. -/
import Derived.Test.YtnafhblioabkgaaGreatRSim
import Derived.Deep.RegionHeld3
namespace Go.Proofs.YtnafhblioabkgaaGreat
open Go.RowKit

set_option maxHeartbeats 4000000 in
set_option maxRecDepth 100000 in
theorem rCheck_ok (s : Sch) (A A' : Option Addr) (c c' : Nat) (w : World) (B : Nat) (hB : B ≤ w.heap.size) (he : RdL encI 1 w B A s.errs.length s.errs) (hs : RdL encStp 11 w B A' s.steps.length s.steps) :
    Calls Tryz.prog 11 #[vSch s A c A' c'] w fun e w' => e = .returned (.int .i64 s.code) ∧ Below w.heap.size w w' := by
  have L := Lib.hid fun v W => rin_len v W
  have he' := Lib.hid he
  have S := Lib.hid fun (x : Stp) (W : World) (p0 : 0 ≤ s.ppb) (p1 : s.ppb ≤ 1000000) => rstep_ok s x A A' c c' s.errs.length s.steps.length W p0 p1
  have N1 := Lib.hid fun W => rin_near s.start W
  have N2 := Lib.hid fun W => rin_near s.loc W
  have hs' := Lib.hid hs
  clear hs he
  obtain ⟨start, loc, ppb, liars, aim, errs, steps⟩ := s
  dsimp only [vSch] at *
  unfold Sch.code
  dsimp only
  generalize hn : errs.length = n at *
  generalize hm : steps.length = m at *

  by_cases g1 : n < 1
  · rw [if_pos (.inl g1)]
    have t1 : decide ((n : Int) < 1) = true := by simp; omega
    clear L S N1 N2 hs' he'
    go_enter Tryz.func11, Tryz.ntmps11
    go_wp2
    go_ret
    exact ⟨rfl, below_alloc (Below.refl _ _) _⟩
  have t1 : decide ((n : Int) < 1) = false := by simp; omega
  by_cases g2 : 8 < n
  · rw [if_pos (.inr (.inl g2))]
    have t2 : decide ((n : Int) > 8) = true := by simp; omega
    clear L S N1 N2 hs' he'
    go_enter Tryz.func11, Tryz.ntmps11
    go_wp2
    go_ret
    exact ⟨rfl, below_alloc (Below.refl _ _) _⟩
  have t2 : decide ((n : Int) > 8) = false := by simp; omega
  by_cases g3 : 64 < m
  · rw [if_pos (.inr (.inr g3))]
    have t3 : decide ((m : Int) > 64) = true := by simp; omega
    clear L S N1 N2 hs' he'
    go_enter Tryz.func11, Tryz.ntmps11
    go_wp2
    go_ret
    exact ⟨rfl, below_alloc (Below.refl _ _) _⟩
  have t3 : decide ((m : Int) > 64) = false := by simp; omega
  rw [if_neg (show ¬ (n < 1 ∨ 8 < n ∨ 64 < m) by omega)]
  cases q0 : nearB start
  case false =>
    rw [q0] at N1
    clear L S hs' he'
    go_enter Tryz.func11, Tryz.ntmps11
    go_wp2_with fail
    refine (N1.out _).mono ?_
    rintro e w' ⟨rfl, rfl⟩
    go_wp2
    go_ret
    exact ⟨rfl, below_alloc (Below.refl _ _) _⟩
  rw [q0] at N1
  cases q1 : nearB loc
  case false =>
    rw [q1] at N2
    clear L S hs' he'
    go_enter Tryz.func11, Tryz.ntmps11
    go_wp2_with fail
    refine (N1.out _).mono ?_
    rintro e w' ⟨rfl, rfl⟩
    go_wp2_with fail
    refine (N2.out _).mono ?_
    rintro e w' ⟨rfl, rfl⟩
    go_wp2
    go_ret
    exact ⟨rfl, below_alloc (Below.refl _ _) _⟩
  rw [q1] at N2
  cases q2 : decide (ppb < 0)
  case true =>
    clear L S hs' he'
    go_enter Tryz.func11, Tryz.ntmps11
    go_wp2_with fail
    refine (N1.out _).mono ?_
    rintro e w' ⟨rfl, rfl⟩
    go_wp2_with fail
    refine (N2.out _).mono ?_
    rintro e w' ⟨rfl, rfl⟩
    go_wp2
    go_ret
    exact ⟨rfl, below_alloc (Below.refl _ _) _⟩
  cases q3 : decide (ppb > 1000000)
  case true =>
    clear L S hs' he'
    go_enter Tryz.func11, Tryz.ntmps11
    go_wp2_with fail
    refine (N1.out _).mono ?_
    rintro e w' ⟨rfl, rfl⟩
    go_wp2_with fail
    refine (N2.out _).mono ?_
    rintro e w' ⟨rfl, rfl⟩
    go_wp2
    go_ret
    exact ⟨rfl, below_alloc (Below.refl _ _) _⟩
  cases q4 : decide (aim < 0)
  case true =>
    clear L S hs' he'
    go_enter Tryz.func11, Tryz.ntmps11
    go_wp2_with fail
    refine (N1.out _).mono ?_
    rintro e w' ⟨rfl, rfl⟩
    go_wp2_with fail
    refine (N2.out _).mono ?_
    rintro e w' ⟨rfl, rfl⟩
    go_wp2
    go_ret
    exact ⟨rfl, below_alloc (Below.refl _ _) _⟩
  cases q5 : decide (aim > 1000)
  case true =>
    clear L S hs' he'
    go_enter Tryz.func11, Tryz.ntmps11
    go_wp2_with fail
    refine (N1.out _).mono ?_
    rintro e w' ⟨rfl, rfl⟩
    go_wp2_with fail
    refine (N2.out _).mono ?_
    rintro e w' ⟨rfl, rfl⟩
    go_wp2
    go_ret
    exact ⟨rfl, below_alloc (Below.refl _ _) _⟩
  cases q6 : decide (liars < 0)
  case true =>
    clear L S hs' he'
    go_enter Tryz.func11, Tryz.ntmps11
    go_wp2_with fail
    refine (N1.out _).mono ?_
    rintro e w' ⟨rfl, rfl⟩
    go_wp2_with fail
    refine (N2.out _).mono ?_
    rintro e w' ⟨rfl, rfl⟩
    go_wp2
    go_ret
    exact ⟨rfl, below_alloc (Below.refl _ _) _⟩
  cases q7 : decide (liars > 8)
  case true =>
    rw [show decide (liars > (n : Int)) = true by simp at q7 ⊢; omega]
    clear L S hs' he'
    go_enter Tryz.func11, Tryz.ntmps11
    go_wp2_with fail
    refine (N1.out _).mono ?_
    rintro e w' ⟨rfl, rfl⟩
    go_wp2_with fail
    refine (N2.out _).mono ?_
    rintro e w' ⟨rfl, rfl⟩
    go_wp2
    go_ret
    exact ⟨rfl, below_alloc (Below.refl _ _) _⟩
  have hw : IntKind.i64.wrap (2 * liars) = 2 * liars := IntWalk.i64_in _ (by simp at q6 q7; omega)
  cases q8 : decide (2 * liars ≥ n)
  case true =>
    rw [show (decide (liars > (n : Int)) || (true || !errs.all lenB)) = true by simp]
    clear L S hs' he'
    go_enter Tryz.func11, Tryz.ntmps11
    go_wp2_with fail
    refine (N1.out _).mono ?_
    rintro e w' ⟨rfl, rfl⟩
    go_wp2_with fail
    refine (N2.out _).mono ?_
    rintro e w' ⟨rfl, rfl⟩
    go_wp2
    go_ret
    exact ⟨rfl, below_alloc (Below.refl _ _) _⟩
  rw [show decide (liars > (n : Int)) = false by simp at q6 q8 ⊢; omega]
  show Calls _ _ _ _ fun e w' => e = .returned (.int .i64 (if !errs.all lenB then 4 else stepsM n ppb steps)) ∧ _
  have S' := Lib.hid fun x W => S.out x W (by simp at q2; omega) (by simp at q3; omega)
  have hn' := Lib.hid hn
  have hm' := Lib.hid hm
  clear S hn hm
  obtain ⟨R, hR0⟩ : ∃ R, (if !errs.all lenB then 4 else stepsM n ppb steps) = R := ⟨_, rfl⟩
  rw [hR0]
  have hR := Lib.hid hR0
  clear hR0
  go_enter Tryz.func11, Tryz.ntmps11
  go_wp2_with fail
  refine (N1.out _).mono ?_
  rintro e w' ⟨rfl, rfl⟩
  go_wp2_with fail
  refine (N2.out _).mono ?_
  rintro e w' ⟨rfl, rfl⟩
  obtain ⟨W, hW⟩ : ∃ W, W = w.alloc (.cells #[.int .i64 start, .int .i64 loc, .int .i64 ppb, .int .i64 liars, .int .i64 aim, .slice A n c, .slice A' m c'] 25) := ⟨_, rfl⟩
  have G0 := Lib.hid (show Blk W w.heap.size 25 _ by rw [hW]; exact Blk.new _ _ _)
  have hB1 := Lib.hid (show Below w.heap.size w W by rw [hW]; exact below_alloc (Below.refl _ _) _)
  have hz1 : w.heap.size < W.heap.size := by rw [hW]; simp
  rw [← hW]
  clear hW
  obtain ⟨z0, z1, z2, z3, z4, z5, z6⟩ := blk7 G0.out
  go_wp2
  clear z0 z1 z2 z3 z4 z5 z6
  go_loopg [3] n (fun gg s4 wr => ∃ k : Nat, k ≤ n ∧ n - k ≤ gg ∧ s4 = .int .i64 k ∧ wr = W ∧ Hid ((errs.take k).all lenB = true))
  case atStart => exact ⟨0, Nat.zero_le _, by omega, rfl, rfl, Lib.hid rfl⟩
  case round =>
    obtain ⟨k, hk, hg, rfl, rfl, hall⟩ := hrel
    obtain ⟨z0, z1, z2, z3, z4, z5, z6⟩ := blk7 G0.out
    by_cases hlt : k < n
    · obtain ⟨b, off, x, rfl, hbB, hz, hd, c0⟩ := (he'.out.below hB1.out hB).getI hlt
      have X := Lib.hid fun W => L.out x W
      cases hx : lenB x
      case false =>
        rw [hx] at X
        have hRe : R = 4 := by
          rw [← hR.out]
          have : errs.all lenB = false := by
            rw [Bool.eq_false_iff]
            intro h
            have := List.all_eq_true.1 h x (List.mem_of_getElem? hz)
            rw [hx] at this
            cases this
          rw [this]
          simp
        subst hRe
        clear hz hd hx
        go_wp2_with fail
        refine (X.out _).mono ?_
        rintro e w' ⟨rfl, rfl⟩
        go_wp2
        go_ret
        exact ⟨rfl, hB1.out⟩
      case true =>
        rw [hx] at X
        have hA : Hid ((errs.take (k + 1)).all lenB = true) := Lib.hid (by rw [List.take_add_one, hz, List.all_append, hall.out]; simp [hx])
        clear hz hd hx
        go_wp2_with fail
        refine (X.out _).mono ?_
        rintro e w' ⟨rfl, rfl⟩
        go_wp2
        go_roundg (n - (k + 1))
        case rel => exact ⟨k + 1, by omega, Nat.le_refl _, by go_num, rfl, hA⟩
        case measure => omega
    · obtain rfl : n = k := by omega
      have hall' := hall.out
      rw [List.take_of_length_le (by rw [hn'.out]; omega)] at hall'
      have hRR := Lib.hid (show stepsM n ppb steps = R by rw [← hR.out, hall']; rfl)
      clear hR hall hall' L he'
      go_wp2
      clear z0 z1 z2 z3 z4 z5 z6
      go_loopg [4] m (fun gg s5 wq => ∃ k : Nat, k ≤ m ∧ m - k ≤ gg ∧ s5 = .int .i64 k ∧ Hid (Below wr.heap.size wr wq) ∧ Hid (stepsM n ppb (steps.drop k) = R))
      case atStart => exact ⟨0, Nat.zero_le _, by omega, rfl, Lib.hid (Below.refl _ _), Lib.hid (by simpa using hRR.out)⟩
      case round =>
        obtain ⟨k, hk, hg, rfl, hb, hRk⟩ := hrel
        by_cases hlt : k < m
        · have hBr := Lib.hid (below_then hB1.out hb.out)
          obtain ⟨b, off, x, rfl, hbB, hz, hd, c0, c1, c2, c3, c4, c5, c6, c7, c8, c9, c10⟩ := (hs'.out.below hBr.out hB).getStp hlt
          have Sx := Lib.hid fun W => S'.out x W
          have hRx : (if stepM n ppb x = 0 then stepsM n ppb (steps.drop (k + 1)) else stepM n ppb x) = R := by rw [← hRk.out, hd]; rfl
          generalize stepM n ppb x = y at *
          obtain ⟨z0, z1, z2, z3, z4, z5, z6⟩ := blk7 (G0.out.keep hb.out)
          clear hd hz
          have i1 : (0 : Int) ≤ (k : Int) := by omega
          have i2 : (k : Int) < (m : Int) := by omega
          go_wp2_with fail
          go_region_held3 (fun (W : World) => W.cell? ⟨w.heap.size, 0, none⟩ = some (.int .i64 start) ∧ W.cell? ⟨w.heap.size, 1, none⟩ = some (.int .i64 loc) ∧ W.cell? ⟨w.heap.size, 2, none⟩ = some (.int .i64 ppb) ∧ W.cell? ⟨w.heap.size, 3, none⟩ = some (.int .i64 liars) ∧ W.cell? ⟨w.heap.size, 4, none⟩ = some (.int .i64 aim) ∧ W.cell? ⟨w.heap.size, 5, none⟩ = some (.slice A n c) ∧ W.cell? ⟨w.heap.size, 6, none⟩ = some (.slice (some ⟨b, off, none⟩) m c') ∧ W.cell? ⟨b, off + k * 11, none⟩ = some (.int .i64 x.src) ∧ W.cell? ⟨b, off + k * 11 + 1, none⟩ = some (.int .i64 x.tru) ∧ W.cell? ⟨b, off + k * 11 + 2, none⟩ = some (.int .i64 x.loc) ∧ W.cell? ⟨b, off + k * 11 + 3, none⟩ = some (.int .i64 x.out) ∧ W.cell? ⟨b, off + k * 11 + 4, none⟩ = some (.int .i64 x.outL) ∧ W.cell? ⟨b, off + k * 11 + 5, none⟩ = some (.int .i64 x.hold) ∧ W.cell? ⟨b, off + k * 11 + 6, none⟩ = some (.int .i64 x.holdL) ∧ W.cell? ⟨b, off + k * 11 + 7, none⟩ = some (.int .i64 x.back) ∧ W.cell? ⟨b, off + k * 11 + 8, none⟩ = some (.int .i64 x.backL) ∧ W.cell? ⟨b, off + k * 11 + 9, none⟩ = some (.int .i64 x.w2) ∧ W.cell? ⟨b, off + k * 11 + 10, none⟩ = some (.int .i64 x.w3)) (first | exact hS9 | exact ⟨z0, z1, z2, z3, z4, z5, z6, c0, c1, c2, c3, c4, c5, c6, c7, c8, c9, c10⟩) (first | (go_at_call 28; refine (Sx.out _).mono ?_; rintro e w2 ⟨rfl, hb2⟩; have hS9 : (fun (W : World) => W.cell? ⟨w.heap.size, 0, none⟩ = some (.int .i64 start) ∧ W.cell? ⟨w.heap.size, 1, none⟩ = some (.int .i64 loc) ∧ W.cell? ⟨w.heap.size, 2, none⟩ = some (.int .i64 ppb) ∧ W.cell? ⟨w.heap.size, 3, none⟩ = some (.int .i64 liars) ∧ W.cell? ⟨w.heap.size, 4, none⟩ = some (.int .i64 aim) ∧ W.cell? ⟨w.heap.size, 5, none⟩ = some (.slice A n c) ∧ W.cell? ⟨w.heap.size, 6, none⟩ = some (.slice (some ⟨b, off, none⟩) m c') ∧ W.cell? ⟨b, off + k * 11, none⟩ = some (.int .i64 x.src) ∧ W.cell? ⟨b, off + k * 11 + 1, none⟩ = some (.int .i64 x.tru) ∧ W.cell? ⟨b, off + k * 11 + 2, none⟩ = some (.int .i64 x.loc) ∧ W.cell? ⟨b, off + k * 11 + 3, none⟩ = some (.int .i64 x.out) ∧ W.cell? ⟨b, off + k * 11 + 4, none⟩ = some (.int .i64 x.outL) ∧ W.cell? ⟨b, off + k * 11 + 5, none⟩ = some (.int .i64 x.hold) ∧ W.cell? ⟨b, off + k * 11 + 6, none⟩ = some (.int .i64 x.holdL) ∧ W.cell? ⟨b, off + k * 11 + 7, none⟩ = some (.int .i64 x.back) ∧ W.cell? ⟨b, off + k * 11 + 8, none⟩ = some (.int .i64 x.backL) ∧ W.cell? ⟨b, off + k * 11 + 9, none⟩ = some (.int .i64 x.w2) ∧ W.cell? ⟨b, off + k * 11 + 10, none⟩ = some (.int .i64 x.w3)) w2 := ⟨cell_keep (w := wr.drew) hb2 z0, cell_keep (w := wr.drew) hb2 z1, cell_keep (w := wr.drew) hb2 z2, cell_keep (w := wr.drew) hb2 z3, cell_keep (w := wr.drew) hb2 z4, cell_keep (w := wr.drew) hb2 z5, cell_keep (w := wr.drew) hb2 z6, cell_keep (w := wr.drew) hb2 c0, cell_keep (w := wr.drew) hb2 c1, cell_keep (w := wr.drew) hb2 c2, cell_keep (w := wr.drew) hb2 c3, cell_keep (w := wr.drew) hb2 c4, cell_keep (w := wr.drew) hb2 c5, cell_keep (w := wr.drew) hb2 c6, cell_keep (w := wr.drew) hb2 c7, cell_keep (w := wr.drew) hb2 c8, cell_keep (w := wr.drew) hb2 c9, cell_keep (w := wr.drew) hb2 c10⟩))
          have hB2 := Lib.hid (below_then (below_drew hb.out) hb2)
          have hB3 := Lib.hid (below_then hB1.out hB2.out)
          clear hb2 hS9 z0 z1 z2 z3 z4 z5 z6
          by_cases hy : y = 0
          · rw [if_pos hy] at hRx
            have H := Lib.hid hRx
            subst hy
            clear hRx
            go_wp2
            go_roundg (m - (k + 1))
            case rel => exact ⟨k + 1, by omega, Nat.le_refl _, by go_num, hB2, H⟩
            case measure => omega
          · rw [if_neg hy] at hRx
            subst hRx
            go_wp2
            go_ret
            exact ⟨rfl, hB3.out⟩
        · obtain rfl : m = k := by omega
          have hB3 := Lib.hid (below_then hB1.out hb.out)
          have hRR : R = 0 := by rw [← hRk.out, List.drop_eq_nil_of_le (by rw [hm'.out]; omega)]; rfl
          obtain ⟨z0, z1, z2, z3, z4, z5, z6⟩ := blk7 (G0.out.keep hb.out)
          subst hRR
          go_wp2
          go_ret
          exact ⟨rfl, hB3.out⟩
end Go.Proofs.YtnafhblioabkgaaGreat

