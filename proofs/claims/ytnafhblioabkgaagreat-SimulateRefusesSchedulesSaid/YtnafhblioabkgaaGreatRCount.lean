/- The reference's layer 34: how many spans hold an instant. -/
import Derived.Test.YtnafhblioabkgaaGreatRSpan
import Derived.Test.YtnafhblioabkgaaGreatSweep
namespace Go.Proofs.YtnafhblioabkgaaGreat
open Go.RowKit

theorem rHolds_ok (lo hi t : Int) (w : World) (h : okS lo hi = true) : Calls Tryz.prog 132 #[.agg #[.int .i64 lo, .int .i64 hi], .int .i64 t] w fun e w' => e = .returned (.bool (decide (lo ≤ t ∧ t ≤ hi))) ∧ Below w.heap.size w w' := by
  have V := Lib.hid fun W => rS_valid lo hi W h
  clear h
  by_cases h1 : lo ≤ t
  all_goals
    go_enter Tryz.func132, Tryz.ntmps132
    go_wp2_with fail
    refine (V.out _).mono ?_
    rintro e w1 ⟨rfl, hb1⟩
    obtain ⟨a0, a1, _, _⟩ := blk2 ((Blk.new _ _ _).keep hb1)
    have hB1 := Lib.hid (below_then (below_alloc (Below.refl _ _) _) hb1)
    clear hb1
    go_wp2
    go_ret
    exact ⟨ret_bool (by simp; omega), hB1.out⟩

theorem rSweep_Check (A : Option Addr) (n c : Nat) (l : List (Int × Int)) (w : World) (B : Nat) (hB : B ≤ w.heap.size) (hr : RdL encSp 2 w B A n l) (hn' : n ≤ 64) (hv : ∀ s ∈ l, okS s.1 s.2 = true) :
    Calls Tryz.prog 109 #[.slice A n c] w fun e w' => e = .returned (.int .i64 0) ∧ Below w.heap.size w w' := by
  have t1 : decide ((64 : Int) < (n : Int)) = false := by simp; omega
  have hr' := Lib.hid hr
  have hv' := Lib.hid hv
  clear hr hv
  go_enter Tryz.func109, Tryz.ntmps109
  go_wp2
  go_loopg [3] n (fun gg s3 wr => ∃ (k : Nat), k ≤ n ∧ n - k ≤ gg ∧ s3 = .int .i64 k ∧ Hid (Below w.heap.size w wr))
  case atStart => exact ⟨0, Nat.zero_le _, by omega, rfl, Lib.hid (Below.refl _ _)⟩
  case round =>
    obtain ⟨k, hk, hg, rfl, hb⟩ := hrel
    by_cases hlt : k < n
    · obtain ⟨b, off, x, rfl, hbB, hz, hd, c0, c1⟩ := (hr'.out.below hb.out hB).getSp hlt
      have H := Lib.hid fun W => rS_valid x.1 x.2 W (hv'.out x (List.mem_of_getElem? hz))
      clear hd hz
      go_wp2_with fail
      refine (H.out _).mono ?_
      rintro e w2 ⟨rfl, hb2⟩
      have hB2 := Lib.hid (below_then hb.out hb2)
      clear hb2
      go_wp2
      go_roundg (n - (k + 1))
      case rel => exact ⟨k + 1, by omega, Nat.le_refl _, by go_num, hB2⟩
      case measure => omega
    · obtain rfl : k = n := by omega
      go_wp2
      go_ret
      exact ⟨rfl, hb.out⟩

theorem cnt_snoc (l : List (Int × Int)) (x : Int × Int) (t : Int) : Sw.cnt (l ++ [x]) t = Sw.cnt l t + if x.1 ≤ t ∧ t ≤ x.2 then 1 else 0 := by
  unfold Sw.cnt
  rw [List.filter_append, List.length_append]
  by_cases h : x.1 ≤ t ∧ t ≤ x.2 <;> simp [h]
theorem rcount_ok (A : Option Addr) (n c : Nat) (l : List (Int × Int)) (t : Int) (w : World) (B : Nat) (hB : B ≤ w.heap.size) (hr : RdL encSp 2 w B A n l) (hn' : n ≤ 64) (hv : ∀ s ∈ l, okS s.1 s.2 = true) :
    Calls Tryz.prog 127 #[.slice A n c, .int .i64 t] w fun e w' => e = .returned (.int .i64 (Sw.cnt l t)) ∧ Below w.heap.size w w' := by
  have hl := Lib.hid hr.len
  have hr' := Lib.hid hr
  have hv' := Lib.hid hv
  obtain ⟨R, hR⟩ : ∃ R, Sw.cnt l t = R := ⟨_, rfl⟩
  rw [hR]
  have hR' := Lib.hid hR
  clear hr hv hR
  go_enter Tryz.func127, Tryz.ntmps127
  go_wp2
  go_loopg [5, 6] n (fun gg s5 s6 wr => ∃ (k : Nat) (j : Int), k ≤ n ∧ n - k ≤ gg ∧ s6 = .int .i64 k ∧ s5 = .int .i64 j ∧ 0 ≤ j ∧ j ≤ k ∧ Hid (Sw.cnt (l.take k) t = j) ∧ Hid (Below w.heap.size w wr))
  case atStart => exact ⟨0, 0, Nat.zero_le _, by omega, rfl, rfl, by omega, by omega, Lib.hid rfl, Lib.hid (Below.refl _ _)⟩
  case round =>
    obtain ⟨k, j, hk, hg, rfl, rfl, j0, j1, hj, hb⟩ := hrel
    by_cases hlt : k < n
    · obtain ⟨b, off, x, rfl, hbB, hz, hd, c0, c1⟩ := (hr'.out.below hb.out hB).getSp hlt
      have H := Lib.hid fun W => rHolds_ok x.1 x.2 t W (hv'.out x (List.mem_of_getElem? hz))
      have hs := cnt_snoc (l.take k) x t
      rw [show l.take k ++ [x] = l.take (k + 1) by rw [List.take_add_one, hz]; rfl, hj.out] at hs
      clear hd hz
      by_cases hh : x.1 ≤ t ∧ t ≤ x.2
      · simp only [hh, and_self, decide_true] at H
        rw [if_pos hh] at hs
        have hs' := Lib.hid hs
        clear hh hs
        go_wp2_with fail
        refine (H.out _).mono ?_
        rintro e w2 ⟨rfl, hb2⟩
        have hB2 := Lib.hid (below_then hb.out hb2)
        clear hb2
        go_wp2
        go_roundg (n - (k + 1))
        case rel => exact ⟨k + 1, j + 1, by omega, Nat.le_refl _, by go_num, by go_num, by omega, by omega, hs', hB2⟩
        case measure => omega
      · simp only [hh, decide_false] at H
        rw [if_neg hh, Int.add_zero] at hs
        have hs' := Lib.hid hs
        clear hh hs
        go_wp2_with fail
        refine (H.out _).mono ?_
        rintro e w2 ⟨rfl, hb2⟩
        have hB2 := Lib.hid (below_then hb.out hb2)
        clear hb2
        go_wp2
        go_roundg (n - (k + 1))
        case rel => exact ⟨k + 1, j, by omega, Nat.le_refl _, by go_num, rfl, by omega, by omega, hs', hB2⟩
        case measure => omega
    · obtain rfl : k = n := by omega
      have hjR : j = R := by rw [← hj.out, List.take_of_length_le (by rw [hl.out]; omega), hR'.out]
      subst hjR
      go_wp2
      go_ret
      exact ⟨rfl, hb.out⟩
end Go.Proofs.YtnafhblioabkgaaGreat
