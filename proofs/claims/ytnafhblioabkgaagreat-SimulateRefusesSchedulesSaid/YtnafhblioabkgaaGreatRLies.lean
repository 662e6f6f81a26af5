/- The reference's layer 41: the sources that lie. -/
import Derived.Test.YtnafhblioabkgaaGreatRSimc
import Derived.Test.YtnafhblioabkgaaGreatLies
import Derived.BigQuiet
import Derived.Deep.QuietTactic
namespace Go.Proofs.YtnafhblioabkgaaGreat
open Go.RowKit

set_option maxHeartbeats 4000000 in
set_option maxRecDepth 100000 in
theorem rLies_ok (s : Sch) (A A' : Option Addr) (c c' : Nat) (w : World) (B : Nat) (hB : B ≤ w.heap.size) (he : RdL encI 1 w B A s.errs.length s.errs) (hs : RdL encStp 11 w B A' s.steps.length s.steps) :
    Calls Tryz.prog 9 #[vSch s A c A' c'] w (LiePost s w) := by
  obtain ⟨i0, hi, hz0, hz1, hz2⟩ := info_parts infoI
  obtain ⟨R, hR0⟩ : ∃ R, s.lies = R := ⟨_, rfl⟩
  obtain ⟨q, hq0⟩ : ∃ q, s.code = q := ⟨_, rfl⟩
  have C := Lib.hid fun (W : World) (hb : Below w.heap.size w W) => rCheck_ok s A A' c c' W B (Nat.le_trans hB hb.size) (he.below hb hB) (hs.below hb hB)
  have P : ∀ e w', LiePost s w e w' ↔ ∃ A c, e = .returned (.tuple #[.slice A R.length c, .int .i64 q]) ∧ RdL encI 1 w' w'.heap.size A R.length R ∧ Below w.heap.size w w' := fun e w' => by unfold LiePost; rw [hR0, hq0]
  have P' := Lib.hid P
  clear P
  generalize hP : LiePost s w = PP at *
  clear hP
  have hst : q = 0 → s.ok := fun h => Sch.code_ok (hq0.trans h)
  have hst' := Lib.hid hst
  have hR := Lib.hid hR0
  have he' := Lib.hid he
  have hs' := Lib.hid hs
  have hq := Lib.hid hq0
  clear hst hR0 he hs hq0
  simp only [hq.out] at C
  by_cases hq1 : q = 0
  · subst hq1
    have ok := hst'.out rfl
    have hRR := Lib.hid (show liesL s.steps s.errs 0 = R by rw [← hR.out]; unfold Sch.lies; rw [if_pos hq.out])
    have hn := ok.n1
    have hm64 := ok.m
    have hst := Lib.hid ok.st
    clear ok hst' hR hq
    obtain ⟨start, loc, ppb, liars, aim, errs, steps⟩ := s
    dsimp only [vSch] at *
    generalize hn' : errs.length = n at *
    have hn2 := Lib.hid hn'
    generalize hm' : steps.length = m at *
    have hm2 := Lib.hid hm'
    clear hn' hm'
    go_enter Tryz.func9, Tryz.ntmps9
    go_wp2_with fail
    refine (C.out _ (below_alloc (Below.refl _ _) _)).mono ?_
    rintro e w1 ⟨rfl, hb1⟩
    have G0 := Lib.hid ((Blk.new w _ _).keep hb1)
    have hB1 := Lib.hid (below_then (below_alloc (Below.refl _ _) _) hb1)
    have hw1 : w.heap.size < w1.heap.size := by have := hb1.size; simp at this; omega
    clear hb1 C
    go_wp2
    go_loopg [5, 6] n (fun gg v s6 wr => ∃ (k : Nat) (out : List Int) (mm : Nat), k ≤ n ∧ n - k ≤ gg ∧ s6 = .int .i64 k ∧ mm ≤ k ∧ Hid (out.length = mm) ∧ Hid (wr.ownsRow w1.heap.size 3 1 v mm (out.flatMap encI)) ∧ Hid (Below w1.heap.size w1 wr) ∧ Hid (out ++ liesL steps (errs.drop k) k = R))
    case atStart => exact ⟨0, [], 0, Nat.zero_le _, by omega, rfl, by omega, Lib.hid rfl, Lib.hid (World.ownsRow_nil _ _ _ _), Lib.hid (Below.refl _ _), Lib.hid (by simpa using hRR.out)⟩
    case round =>
      obtain ⟨k, out, mm, hk, hg, rfl, hmk, hlen, ho, hb, hRk⟩ := hrel
      have hBr := Lib.hid (below_then hB1.out hb.out)
      obtain ⟨z0, z1, z2, z3, z4, z5, z6⟩ := blk7 (G0.out.keep hb.out)
      by_cases hlt : k < n
      · obtain ⟨b, off, x, rfl, hbB, hz, hd, c0⟩ := (he'.out.below hBr.out hB).getI hlt
        have hRx := Lib.hid (show out ++ (if steps.any (lieP k x) then (k : Int) :: liesL steps (errs.drop (k + 1)) ((k + 1 : Nat) : Int) else liesL steps (errs.drop (k + 1)) ((k + 1 : Nat) : Int)) = R by rw [← hRk.out, hd]; rfl)
        have c0' := Lib.hid c0
        clear hd hz
        obtain ⟨wo, rfl⟩ : ∃ wo, wo = wr := ⟨_, rfl⟩
        go_wp2
        clear c0 z0 z1 z2 z3 z4 z5 z6
        go_loopg [7, 8] m (fun gg s7 s8 wq => ∃ (j : Nat) (ly : Bool), j ≤ m ∧ m - j ≤ gg ∧ s8 = .int .i64 j ∧ s7 = .bool ly ∧ Hid ((steps.take j).any (lieP k x) = ly) ∧ Hid (Below wo.heap.size wo wq))
        case atStart => exact ⟨0, false, Nat.zero_le _, by omega, rfl, rfl, Lib.hid rfl, Lib.hid (Below.refl _ _)⟩
        case round =>
          obtain ⟨j, ly, hj, hgj, rfl, rfl, hly, hbj⟩ := hrel
          have hBj := Lib.hid (below_then hBr.out hbj.out)
          obtain ⟨z0, z1, z2, z3, z4, z5, z6⟩ := blk7 ((G0.out.keep hb.out).keep hbj.out)
          by_cases hjm : j < m
          · obtain ⟨b2, off2, y, rfl, hbB2, hz, hd, d0, d1, d2, d3, d4, d5, d6, d7, d8, d9, d10⟩ := (hs'.out.below hBj.out hB).getStp hjm
            have hy := hst.out y (List.mem_of_getElem? hz)
            have c0 := cell_keep hbj.out c0'.out
            have hnext : ∀ r, lieP k x y = r → Hid ((steps.take (j + 1)).any (lieP k x) = (ly || r)) := fun r hr => Lib.hid (by rw [List.take_add_one, hz, List.any_append, hly.out]; simp [hr])
            have hnext' := Lib.hid hnext
            have A2 := Lib.hid fun W => rabs y.w2 W hy.w2.1 hy.w2.2
            have A3 := Lib.hid fun W => rabs y.w3 W hy.w3.1 hy.w3.2
            have hlp := Lib.hid (show lieP k x y = (decide (y.src = k) && (decide (x < max y.w2 (-y.w2)) || decide (x < max y.w3 (-y.w3)))) from rfl)
            have i1 : (0 : Int) ≤ (k : Int) := by omega
            have i2 : (k : Int) < (n : Int) := by omega
            have hzr : b < wr.heap.size := by have := hBj.out.size; omega
            have hzs : w.heap.size < wr.heap.size := by have := hbj.out.size; have := hb.out.size; omega
            generalize max y.w2 (-y.w2) = a2 at *
            generalize max y.w3 (-y.w3) = a3 at *
            clear hd hz hnext hy hly
            cases ly
            case true =>
              have hN := hnext'.out (lieP k x y) (rfl)
              simp only [Bool.true_or] at hN
              clear hnext' hlp
              go_wp2_with fail
              go_quiet ((first | (go_at_call 22; exact Calls.quiet_of_same ((A2.out _).mono fun _ _ h => ⟨h.1, h.2.symm⟩)) | (go_at_call 22; exact Calls.quiet_of_same ((A3.out _).mono fun _ _ h => ⟨h.1, h.2.symm⟩))))
              go_wp2
              go_roundg (m - (j + 1))
              case rel => exact ⟨j + 1, true, by omega, Nat.le_refl _, by go_num, rfl, hN, Lib.hid (by repeat (with_reducible first | exact hbj.out | refine below_drewN ?_ _ | refine below_alloc ?_ _))⟩
              case measure => omega
            case false =>
              by_cases g1 : y.src = k
              · have t1 : (y.src == (k : Int)) = true := by simp [g1]
                by_cases g2 : x < a2
                · have t2 : decide (a2 > x) = true := by simp [g2]
                  have hN := hnext'.out true (by rw [hlp.out]; simp [g1, g2])
                  simp only [Bool.false_or] at hN
                  clear hnext' hlp
                  go_wp2_with fail
                  go_quiet ((first | (go_at_call 22; exact Calls.quiet_of_same ((A2.out _).mono fun _ _ h => ⟨h.1, h.2.symm⟩)) | (go_at_call 22; exact Calls.quiet_of_same ((A3.out _).mono fun _ _ h => ⟨h.1, h.2.symm⟩))))
                  go_wp2
                  go_roundg (m - (j + 1))
                  case rel => exact ⟨j + 1, true, by omega, Nat.le_refl _, by go_num, rfl, hN, Lib.hid (by repeat (with_reducible first | exact hbj.out | refine below_drewN ?_ _ | refine below_alloc ?_ _))⟩
                  case measure => omega
                · have t2 : decide (a2 > x) = false := by simp; omega
                  by_cases g3 : x < a3
                  · have t3 : decide (a3 > x) = true := by simp [g3]
                    have hN := hnext'.out true (by rw [hlp.out]; simp [g1, g3])
                    simp only [Bool.false_or] at hN
                    clear hnext' hlp
                    go_wp2_with fail
                    go_quiet ((first | (go_at_call 22; exact Calls.quiet_of_same ((A2.out _).mono fun _ _ h => ⟨h.1, h.2.symm⟩)) | (go_at_call 22; exact Calls.quiet_of_same ((A3.out _).mono fun _ _ h => ⟨h.1, h.2.symm⟩))))
                    go_wp2
                    go_roundg (m - (j + 1))
                    case rel => exact ⟨j + 1, true, by omega, Nat.le_refl _, by go_num, rfl, hN, Lib.hid (by repeat (with_reducible first | exact hbj.out | refine below_drewN ?_ _ | refine below_alloc ?_ _))⟩
                    case measure => omega
                  · have t3 : decide (a3 > x) = false := by simp; omega
                    have hN := hnext'.out false (by rw [hlp.out]; simp [g2, g3])
                    simp only [Bool.false_or] at hN
                    clear hnext' hlp
                    go_wp2_with fail
                    go_quiet ((first | (go_at_call 22; exact Calls.quiet_of_same ((A2.out _).mono fun _ _ h => ⟨h.1, h.2.symm⟩)) | (go_at_call 22; exact Calls.quiet_of_same ((A3.out _).mono fun _ _ h => ⟨h.1, h.2.symm⟩))))
                    go_wp2
                    go_roundg (m - (j + 1))
                    case rel => exact ⟨j + 1, false, by omega, Nat.le_refl _, by go_num, rfl, hN, Lib.hid (by repeat (with_reducible first | exact hbj.out | refine below_drewN ?_ _ | refine below_alloc ?_ _))⟩
                    case measure => omega
              · have t1 : (y.src == (k : Int)) = false := by simp [g1]
                have hN := hnext'.out false (by rw [hlp.out]; simp [g1])
                simp only [Bool.false_or] at hN
                clear hnext' hlp
                go_wp2_with fail
                go_quiet ((first | (go_at_call 22; exact Calls.quiet_of_same ((A2.out _).mono fun _ _ h => ⟨h.1, h.2.symm⟩)) | (go_at_call 22; exact Calls.quiet_of_same ((A3.out _).mono fun _ _ h => ⟨h.1, h.2.symm⟩))))
                go_wp2
                go_roundg (m - (j + 1))
                case rel => exact ⟨j + 1, false, by omega, Nat.le_refl _, by go_num, rfl, hN, Lib.hid (by repeat (with_reducible first | exact hbj.out | refine below_drewN ?_ _ | refine below_alloc ?_ _))⟩
                case measure => omega
          · obtain rfl : m = j := by omega
            have hly2 := hly.out
            rw [List.take_of_length_le (by rw [hm2.out]; omega)] at hly2
            have hRy := hRx.out
            rw [hly2] at hRy
            have ho2 := Lib.hid (own_below ho.out hbj.out)
            have H2 := Lib.hid (below_then hb.out hbj.out)
            have tj : decide ((m : Int) < m) = false := by simp
            clear hly hly2 hRx
            cases ly
            · have H : Hid (out ++ liesL steps (errs.drop (k + 1)) ((k + 1 : Nat) : Int) = R) := Lib.hid (by simpa using hRy)
              clear hRy
              go_wp2
              go_roundg (n - (k + 1))
              case rel => exact ⟨k + 1, out, mm, by omega, Nat.le_refl _, by go_num, by omega, hlen, ho2, H2, H⟩
              case measure => omega
            · have H : Hid ((out ++ [(k : Int)]) ++ liesL steps (errs.drop (k + 1)) ((k + 1 : Nat) : Int) = R) := Lib.hid (by rw [← hRy]; simp)
              clear hRy
              have hsz : (mm + 1) * 8 ≤ 140737488355328 := by omega
              go_wp2_with (at_builtin; refine wpList_append_own _ rfl (.tmp 64) (.tmp 66) 22 rfl w1.heap.size 3 i0 _ 1 8 Tryz.underlying22 hi hz0 hz1 hz2 rfl (by decide) _ mm (out.flatMap encI) rfl ?c0 _ 1 1 [.int .i64 k] rfl rfl ?c1 ?c2 ?c3 hsz ?c5 ?_)
              case c0 => exact ho2.out.alloc _
              case c1 => exact World.news_of_block (cs := #[.int .i64 k]) (t := 3) (fr := (0, 0)) (new_at (by simp))
              case c2 => simp [Value.oneCell']
              case c3 => unfold maxLen; omega
              case c5 => have := H2.out.size; simp; omega
              intro v2 w3 hown hgrow _
              have hb3 : Below w1.heap.size w1 w3 := by
                refine Below.grown ?_ hgrow (by have := H2.out.size; simp; omega) (fun j hj => ?_)
                · repeat (with_reducible first | exact H2.out | refine below_alloc ?_ _)
                · exact (ho2.out.lt j hj).1
              have hown3 : w3.ownsRow w1.heap.size 3 1 v2 (mm + 1) ((out ++ [(k : Int)]).flatMap encI) := by
                rw [List.flatMap_append]; exact hown
              have hl3 := Lib.hid (show (out ++ [(k : Int)]).length = mm + 1 by rw [List.length_append, hlen.out]; rfl)
              have K1 := Lib.hid hb3
              have K2 := Lib.hid hown3
              clear hown hgrow hb3 hown3
              go_wp2
              go_roundg (n - (k + 1))
              case rel => exact ⟨k + 1, _, mm + 1, by omega, Nat.le_refl _, by go_num, by omega, hl3, K2, K1, H⟩
              case measure => omega
      · obtain rfl : k = n := by omega
        have hRk' := hRk.out
        rw [List.drop_eq_nil_of_le (by rw [hn2.out]; omega)] at hRk'
        have hRe : out = R := by simpa [liesL] using hRk'
        have ho' := ho.out
        obtain ⟨A2, c2, rfl, hrd⟩ := RdL.of_own (enc := encI) (k := 1) (n := mm) (fun _ => rfl) ho' hlen.out (by omega)
        have K := Lib.hid ((P'.out (.returned (.tuple #[.slice A2 mm c2, .int .i64 0])) wr).2 ⟨A2, c2, by rw [← hRe, hlen.out], by rw [← hRe, hlen.out]; exact hrd, hBr.out⟩)
        clear hrd ho'
        go_wp2
        exact K.out
  · have hRn : R = [] := by rw [← hR.out]; unfold Sch.lies; rw [if_neg (by rw [hq.out]; exact hq1)]
    clear hst' hR
    dsimp only [vSch] at *
    go_enter Tryz.func9, Tryz.ntmps9
    go_wp2_with fail
    refine (C.out _ (below_alloc (Below.refl _ _) _)).mono ?_
    rintro e w1 ⟨rfl, hb1⟩
    have hB1 := below_then (below_alloc (Below.refl _ _) _) hb1
    have K := Lib.hid ((P'.out (.returned (.tuple #[.slice none 0 0, .int .i64 q])) w1).2 ⟨none, 0, by rw [hRn]; rfl, by rw [hRn]; exact RdL.nil _ _ _ _ _, hB1⟩)
    clear hb1 hB1 C
    go_wp2
    exact K.out
end Go.Proofs.YtnafhblioabkgaaGreat
