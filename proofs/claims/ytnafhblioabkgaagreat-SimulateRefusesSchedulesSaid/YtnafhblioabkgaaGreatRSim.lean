/- The reference's layer 41: the first error of a schedule. -/
import Derived.Test.YtnafhblioabkgaaGreatRNum
import Derived.Test.YtnafhblioabkgaaGreatOk
import Derived.BigQuiet
import Derived.Deep.QuietTactic
namespace Go.Proofs.YtnafhblioabkgaaGreat
open Go.RowKit

theorem rin41 (v lo : Int) (w : World) : Calls Tryz.prog 27 #[.int .i64 v, .int .i64 lo] w fun e w' => e = .returned (.bool (decide (lo ≤ v) && decide (v ≤ 1125899906842624))) ∧ w = w' := by
  cases h : decide (lo ≤ v)
  all_goals
    have h' : decide (v ≥ lo) = _ := h
    go_enter Tryz.func27, Tryz.ntmps27
    go_wp2
    go_ret
    exact ⟨rfl, rfl⟩
theorem rin_near (v : Int) (w : World) : Calls Tryz.prog 27 #[.int .i64 v, .int .i64 (-1125899906842624)] w fun e w' => e = .returned (.bool (nearB v)) ∧ w = w' := rin41 v _ w
theorem rin_len (v : Int) (w : World) : Calls Tryz.prog 27 #[.int .i64 v, .int .i64 0] w fun e w' => e = .returned (.bool (lenB v)) ∧ w = w' := rin41 v _ w
theorem rabs (v : Int) (w : World) (h0 : -1125899906842624 ≤ v) (h1 : v ≤ 1125899906842624) : Calls Tryz.prog 22 #[.int .i64 v] w fun e w' => e = .returned (.int .i64 (max v (-v))) ∧ w = w' := by
  have w1 : IntKind.i64.wrap (-v) = -v := IntWalk.i64_in _ (by omega)
  obtain ⟨z, hz⟩ : ∃ z, z = max v (-v) := ⟨_, rfl⟩
  have e1 : (if v < -v then -v else v) = z := by rw [hz]; split <;> omega
  rw [← hz]
  replace hz := hz.symm
  go_enter Tryz.func22, Tryz.ntmps22
  go_wp2
  go_ret
  exact ⟨rfl, rfl⟩

set_option maxHeartbeats 4000000 in
set_option maxRecDepth 100000 in
theorem rstep_ok (s : Sch) (x : Stp) (A A' : Option Addr) (c c' n n' : Nat) (w : World) (p0 : 0 ≤ s.ppb) (p1 : s.ppb ≤ 1000000) :
    Calls Tryz.prog 28 #[.agg #[.int .i64 s.start, .int .i64 s.loc, .int .i64 s.ppb, .int .i64 s.liars, .int .i64 s.aim, .slice A n c, .slice A' n' c'], vStp x] w fun e w' => e = .returned (.int .i64 (stepM n s.ppb x)) ∧ Below w.heap.size w w' := by
  obtain ⟨start, loc, ppb, liars, aim, errs, steps⟩ := s
  dsimp only at *
  obtain ⟨R, hR⟩ : ∃ R, stepM n ppb x = R := ⟨_, rfl⟩
  rw [hR]
  have hR' := Lib.hid hR
  clear hR
  obtain ⟨W, hW⟩ : ∃ W, W = ((w.alloc (.cells #[.int .i64 start, .int .i64 loc, .int .i64 ppb, .int .i64 liars, .int .i64 aim, .slice A n c, .slice A' n' c'] 25)).alloc (.cells #[.int .i64 x.src, .int .i64 x.tru, .int .i64 x.loc, .int .i64 x.out, .int .i64 x.outL, .int .i64 x.hold, .int .i64 x.holdL, .int .i64 x.back, .int .i64 x.backL, .int .i64 x.w2, .int .i64 x.w3] 45)).alloc (.cells #[.int .i64 x.tru, .int .i64 x.loc, .int .i64 x.out, .int .i64 x.outL, .int .i64 x.hold, .int .i64 x.holdL, .int .i64 x.back, .int .i64 x.backL] 3) := ⟨_, rfl⟩
  have BW := Lib.hid (show Below w.heap.size w W by rw [hW]; exact below_alloc (below_alloc (below_alloc (Below.refl _ _) _) _) _)
  have G0 := Lib.hid (show Blk W w.heap.size 25 _ by rw [hW]; exact ((Blk.new _ _ _).alloc _).alloc _)
  have G1 := Lib.hid (show Blk W (w.heap.size + 1) 45 _ by rw [hW]; exact (Blk.new1 _ _ _ _).alloc _)
  have LB := Lib.hid (show Blk W (w.heap.size + 2) 3 #[.int .i64 x.tru, .int .i64 x.loc, .int .i64 x.out, .int .i64 x.outL, .int .i64 x.hold, .int .i64 x.holdL, .int .i64 x.back, .int .i64 x.backL] by rw [hW]; exact Blk.new2 _ _ _ _ _)
  have L := Lib.hid (lens_reads x W (w.heap.size + 2) 3 (by rw [hW]; exact Blk.new2 _ _ _ _ _))
  go_enter Tryz.func28, Tryz.ntmps28
  go_wp2
  rw [← hW]
  clear hW
  go_loopg [6] 8 (fun gg s6 wr => ∃ (k : Nat), k ≤ 8 ∧ 8 - k ≤ gg ∧ s6 = .int .i64 k ∧ wr = W ∧ Hid ((x.lens.take k).all lenB = true))
  case atStart => exact ⟨0, by omega, by omega, rfl, rfl, Lib.hid rfl⟩
  case round =>
    obtain ⟨k, hk, hg, rfl, rfl, ha⟩ := hrel
    by_cases hlt : k < 8
    · obtain ⟨b, off, y, e9, hbB, hz, hd, c0⟩ := L.out.getI hlt
      simp only [Option.some.injEq, Addr.mk.injEq, and_true] at e9
      obtain ⟨rfl, rfl⟩ := e9
      simp only [Nat.zero_add] at c0
      have N := Lib.hid fun W => rin_len y W
      have hts : x.lens.take (k + 1) = x.lens.take k ++ [y] := by rw [List.take_add_one, hz]; rfl
      cases hy : lenB y
      · rw [hy] at N
        have hRe : R = 4 := by
          rw [← hR'.out]
          unfold stepM
          have : x.lens.all lenB = false := by
            rw [Bool.eq_false_iff]
            intro h
            have := List.all_eq_true.1 h y (List.mem_of_getElem? hz)
            rw [hy] at this
            cases this
          rw [this]
          simp
        subst hRe
        clear hd hz hts
        go_wp2_with (go_at_call 27; refine (N.out _).mono ?_; rintro e w' ⟨rfl, rfl⟩)
        go_ret
        exact ⟨rfl, BW.out⟩
      · rw [hy] at N
        have hA : Hid ((x.lens.take (k + 1)).all lenB = true) := Lib.hid (by rw [hts, List.all_append, ha.out]; simp [hy])
        clear hd hz hts
        go_wp2_with (go_at_call 27; refine (N.out _).mono ?_; rintro e w' ⟨rfl, rfl⟩)
        go_roundg (8 - (k + 1))
        case rel => exact ⟨k + 1, by omega, Nat.le_refl _, by go_num, rfl, hA⟩
        case measure => omega
    · obtain rfl : k = 8 := by omega
      have hL : x.lens.all lenB = true := ha.out
      obtain ⟨x0, x1, x2, x3, x4, x5, x6, x7, x8, x9, x10⟩ := blk11 G1.out
      obtain ⟨z0, z1, z2, z3, z4, z5, z6⟩ := blk7 G0.out
      have N2 := Lib.hid fun W => rin_near x.w2 W
      have N3 := Lib.hid fun W => rin_near x.w3 W
      cases h0 : decide (x.src < 0)
      case true =>
        obtain rfl : R = 4 := by rw [← hR'.out]; unfold stepM; simp [h0]
        go_wp2
        go_ret
        exact ⟨rfl, BW.out⟩
      cases h1 : decide (x.src ≥ n)
      case true =>
        obtain rfl : R = 4 := by rw [← hR'.out]; unfold stepM; simp [h0, h1]
        go_wp2
        go_ret
        exact ⟨rfl, BW.out⟩
      cases h2 : nearB x.w2
      case false =>
        rw [h2] at N2
        obtain rfl : R = 4 := by rw [← hR'.out]; unfold stepM; simp [h0, h1, hL, h2]
        go_wp2_with fail
        refine (N2.out _).mono ?_
        rintro e w' ⟨rfl, rfl⟩
        go_wp2
        go_ret
        exact ⟨rfl, BW.out⟩
      rw [h2] at N2
      cases h3 : nearB x.w3
      case false =>
        rw [h3] at N3
        obtain rfl : R = 4 := by rw [← hR'.out]; unfold stepM; simp [h0, h1, hL, h2, h3]
        go_wp2_with fail
        refine (N2.out _).mono ?_
        rintro e w' ⟨rfl, rfl⟩
        go_wp2_with fail
        refine (N3.out _).mono ?_
        rintro e w' ⟨rfl, rfl⟩
        go_wp2
        go_ret
        exact ⟨rfl, BW.out⟩
      rw [h3] at N3
      have hlen : ∀ v ∈ x.lens, 0 ≤ v ∧ v ≤ 1125899906842624 := fun v hv => by
        have := List.all_eq_true.1 hL v hv
        simpa [lenB] using this
      have hRf : R = if !fitsM x.tru x.loc ppb || (!fitsM x.out x.outL ppb || (!fitsM x.hold x.holdL ppb || !fitsM x.back x.backL ppb)) then 28 else 0 := by
        rw [← hR'.out]; unfold stepM; simp only [h0, h1, hL, h2, h3]; rfl
      have F0 := Lib.hid fun W => rFits_ok x.tru x.loc ppb W (hlen _ (by simp [Stp.lens])).1 (hlen _ (by simp [Stp.lens])).2 (hlen _ (by simp [Stp.lens])).1 (hlen _ (by simp [Stp.lens])).2 p0 p1
      have F1 := Lib.hid fun W => rFits_ok x.out x.outL ppb W (hlen _ (by simp [Stp.lens])).1 (hlen _ (by simp [Stp.lens])).2 (hlen _ (by simp [Stp.lens])).1 (hlen _ (by simp [Stp.lens])).2 p0 p1
      have F2 := Lib.hid fun W => rFits_ok x.hold x.holdL ppb W (hlen _ (by simp [Stp.lens])).1 (hlen _ (by simp [Stp.lens])).2 (hlen _ (by simp [Stp.lens])).1 (hlen _ (by simp [Stp.lens])).2 p0 p1
      have F3 := Lib.hid fun W => rFits_ok x.back x.backL ppb W (hlen _ (by simp [Stp.lens])).1 (hlen _ (by simp [Stp.lens])).2 (hlen _ (by simp [Stp.lens])).1 (hlen _ (by simp [Stp.lens])).2 p0 p1
      have l0 : wr.cell? ⟨w.heap.size + 2, 0, none⟩ = some (.int .i64 x.tru) := LB.out.cell 0
      have l1 : wr.cell? ⟨w.heap.size + 2, 1, none⟩ = some (.int .i64 x.loc) := LB.out.cell 1
      have l2 : wr.cell? ⟨w.heap.size + 2, 2, none⟩ = some (.int .i64 x.out) := LB.out.cell 2
      have l3 : wr.cell? ⟨w.heap.size + 2, 3, none⟩ = some (.int .i64 x.outL) := LB.out.cell 3
      have l4 : wr.cell? ⟨w.heap.size + 2, 4, none⟩ = some (.int .i64 x.hold) := LB.out.cell 4
      have l5 : wr.cell? ⟨w.heap.size + 2, 5, none⟩ = some (.int .i64 x.holdL) := LB.out.cell 5
      have l6 : wr.cell? ⟨w.heap.size + 2, 6, none⟩ = some (.int .i64 x.back) := LB.out.cell 6
      have l7 : wr.cell? ⟨w.heap.size + 2, 7, none⟩ = some (.int .i64 x.backL) := LB.out.cell 7
      clear hlen hL ha
      have hz : Hid (Below w.heap.size w wr) := BW
      go_wp2_with fail
      refine (N2.out _).mono ?_
      rintro e w' ⟨rfl, rfl⟩
      go_wp2_with fail
      refine (N3.out _).mono ?_
      rintro e w' ⟨rfl, rfl⟩
      go_wp2_with fail
      generalize hg0 : fitsM x.tru x.loc ppb = g0 at *
      generalize hg1 : fitsM x.out x.outL ppb = g1 at *
      generalize hg2 : fitsM x.hold x.holdL ppb = g2 at *
      generalize hg3 : fitsM x.back x.backL ppb = g3 at *
      have HRF := Lib.hid (show R = if ([g0, g1, g2, g3].drop 0).all id then 0 else 28 by rw [hRf]; cases g0 <;> cases g1 <;> cases g2 <;> cases g3 <;> rfl)
      clear hRf hg0 hg1 hg2 hg3 h0 h1 h2 h3 x0 x1 x2 x3 x4 x5 x6 x7 x8 x9 x10 N2 N3
      go_loopg [7] 4 (fun gg s7 wq => ∃ (j : Nat) (i : Int), j ≤ 4 ∧ 4 - j ≤ gg ∧ s7 = .int .i64 i ∧ i = 2 * j ∧ Hid (Below wr.heap.size wr wq) ∧ Hid (R = if ([g0, g1, g2, g3].drop j).all id then 0 else 28))
      case atStart => exact ⟨0, 0, by omega, by omega, rfl, by omega, Lib.hid (Below.refl _ _), HRF⟩
      case round =>
        obtain ⟨j, i, hj, hgj, rfl, hi, hbq, hRj⟩ := hrel
        have hBq := Lib.hid (below_then hz.out hbq.out)
        have m2 := cell_keep hbq.out z2
        obtain rfl | rfl | rfl | rfl | rfl : j = 0 ∨ j = 1 ∨ j = 2 ∨ j = 3 ∨ j = 4 := by omega
        · obtain rfl : i = 0 := by omega
          clear hi
          have e1 : IntKind.i64.wrap 1 = 1 := IntWalk.i64_in _ (by omega)
          have e2 : IntKind.i64.wrap (0 + 1) = 1 := IntWalk.i64_in _ (by omega)
          have e3 : IntKind.i64.wrap 2 = 2 := IntWalk.i64_in _ (by omega)
          have q0 : wr.cell? ⟨w.heap.size + 1 + 1, 0, none⟩ = some (.int .i64 x.tru) := cell_keep hbq.out l0
          have q1 : wr.cell? ⟨w.heap.size + 1 + 1, 1, none⟩ = some (.int .i64 x.loc) := cell_keep hbq.out l1
          cases g0
          · obtain rfl : R = 28 := by rw [hRj.out]; rfl
            go_wp2_with fail
            go_quiet ((go_at_call 54; exact Calls.quiet_of_same ((F0.out _).mono fun _ _ h => ⟨h.1, h.2.symm⟩)))
            go_wp2
            go_ret
            exact ⟨rfl, by repeat (with_reducible first | exact hBq.out | refine below_drew ?_ | refine below_drewN ?_ _)⟩
          · have hR2 : Hid (R = if ([true, g1, g2, g3].drop 1).all id then 0 else 28) := Lib.hid (by rw [hRj.out]; rfl)
            go_wp2_with fail
            go_quiet ((go_at_call 54; exact Calls.quiet_of_same ((F0.out _).mono fun _ _ h => ⟨h.1, h.2.symm⟩)))
            go_wp2
            go_roundg (4 - 1)
            case rel => exact ⟨1, 2, by omega, Nat.le_refl _, by go_num, by omega, Lib.hid (by repeat (with_reducible first | exact hbq.out | refine below_drew ?_ | refine below_drewN ?_ _)), hR2⟩
            case measure => omega
        · obtain rfl : i = 2 := by omega
          clear hi
          have e1 : IntKind.i64.wrap 3 = 3 := IntWalk.i64_in _ (by omega)
          have e2 : IntKind.i64.wrap (2 + 1) = 3 := IntWalk.i64_in _ (by omega)
          have e3 : IntKind.i64.wrap 4 = 4 := IntWalk.i64_in _ (by omega)
          have q0 : wr.cell? ⟨w.heap.size + 1 + 1, 2, none⟩ = some (.int .i64 x.out) := cell_keep hbq.out l2
          have q1 : wr.cell? ⟨w.heap.size + 1 + 1, 3, none⟩ = some (.int .i64 x.outL) := cell_keep hbq.out l3
          cases g1
          · obtain rfl : R = 28 := by rw [hRj.out]; rfl
            go_wp2_with fail
            go_quiet ((go_at_call 54; exact Calls.quiet_of_same ((F1.out _).mono fun _ _ h => ⟨h.1, h.2.symm⟩)))
            go_wp2
            go_ret
            exact ⟨rfl, by repeat (with_reducible first | exact hBq.out | refine below_drew ?_ | refine below_drewN ?_ _)⟩
          · have hR2 : Hid (R = if ([g0, true, g2, g3].drop 2).all id then 0 else 28) := Lib.hid (by rw [hRj.out]; rfl)
            go_wp2_with fail
            go_quiet ((go_at_call 54; exact Calls.quiet_of_same ((F1.out _).mono fun _ _ h => ⟨h.1, h.2.symm⟩)))
            go_wp2
            go_roundg (4 - 2)
            case rel => exact ⟨2, 4, by omega, Nat.le_refl _, by go_num, by omega, Lib.hid (by repeat (with_reducible first | exact hbq.out | refine below_drew ?_ | refine below_drewN ?_ _)), hR2⟩
            case measure => omega
        · obtain rfl : i = 4 := by omega
          clear hi
          have e1 : IntKind.i64.wrap 5 = 5 := IntWalk.i64_in _ (by omega)
          have e2 : IntKind.i64.wrap (4 + 1) = 5 := IntWalk.i64_in _ (by omega)
          have e3 : IntKind.i64.wrap 6 = 6 := IntWalk.i64_in _ (by omega)
          have q0 : wr.cell? ⟨w.heap.size + 1 + 1, 4, none⟩ = some (.int .i64 x.hold) := cell_keep hbq.out l4
          have q1 : wr.cell? ⟨w.heap.size + 1 + 1, 5, none⟩ = some (.int .i64 x.holdL) := cell_keep hbq.out l5
          cases g2
          · obtain rfl : R = 28 := by rw [hRj.out]; rfl
            go_wp2_with fail
            go_quiet ((go_at_call 54; exact Calls.quiet_of_same ((F2.out _).mono fun _ _ h => ⟨h.1, h.2.symm⟩)))
            go_wp2
            go_ret
            exact ⟨rfl, by repeat (with_reducible first | exact hBq.out | refine below_drew ?_ | refine below_drewN ?_ _)⟩
          · have hR2 : Hid (R = if ([g0, g1, true, g3].drop 3).all id then 0 else 28) := Lib.hid (by rw [hRj.out]; rfl)
            go_wp2_with fail
            go_quiet ((go_at_call 54; exact Calls.quiet_of_same ((F2.out _).mono fun _ _ h => ⟨h.1, h.2.symm⟩)))
            go_wp2
            go_roundg (4 - 3)
            case rel => exact ⟨3, 6, by omega, Nat.le_refl _, by go_num, by omega, Lib.hid (by repeat (with_reducible first | exact hbq.out | refine below_drew ?_ | refine below_drewN ?_ _)), hR2⟩
            case measure => omega
        · obtain rfl : i = 6 := by omega
          clear hi
          have e1 : IntKind.i64.wrap 7 = 7 := IntWalk.i64_in _ (by omega)
          have e2 : IntKind.i64.wrap (6 + 1) = 7 := IntWalk.i64_in _ (by omega)
          have e3 : IntKind.i64.wrap 8 = 8 := IntWalk.i64_in _ (by omega)
          have q0 : wr.cell? ⟨w.heap.size + 1 + 1, 6, none⟩ = some (.int .i64 x.back) := cell_keep hbq.out l6
          have q1 : wr.cell? ⟨w.heap.size + 1 + 1, 7, none⟩ = some (.int .i64 x.backL) := cell_keep hbq.out l7
          cases g3
          · obtain rfl : R = 28 := by rw [hRj.out]; rfl
            go_wp2_with fail
            go_quiet ((go_at_call 54; exact Calls.quiet_of_same ((F3.out _).mono fun _ _ h => ⟨h.1, h.2.symm⟩)))
            go_wp2
            go_ret
            exact ⟨rfl, by repeat (with_reducible first | exact hBq.out | refine below_drew ?_ | refine below_drewN ?_ _)⟩
          · have hR2 : Hid (R = if ([g0, g1, g2, true].drop 4).all id then 0 else 28) := Lib.hid (by rw [hRj.out]; rfl)
            go_wp2_with fail
            go_quiet ((go_at_call 54; exact Calls.quiet_of_same ((F3.out _).mono fun _ _ h => ⟨h.1, h.2.symm⟩)))
            go_wp2
            go_roundg (4 - 4)
            case rel => exact ⟨4, 8, by omega, Nat.le_refl _, by go_num, by omega, Lib.hid (by repeat (with_reducible first | exact hbq.out | refine below_drew ?_ | refine below_drewN ?_ _)), hR2⟩
            case measure => omega
        · obtain rfl : i = 8 := by omega
          clear hi
          obtain rfl : R = 0 := by rw [hRj.out]; rfl
          go_wp2
          go_ret
          exact ⟨rfl, hBq.out⟩
end Go.Proofs.YtnafhblioabkgaaGreat
