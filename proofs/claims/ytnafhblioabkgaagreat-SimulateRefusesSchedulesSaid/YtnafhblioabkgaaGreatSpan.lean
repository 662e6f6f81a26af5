/- What the program's layers 11, 15 and 37 answer of spans, for the numbers that occur. -/
import Derived.Test.YtnafhblioabkgaaGreatFind
import Derived.Deep.DeepFit
import Derived.Laws.ResultCell
namespace Go.Proofs.YtnafhblioabkgaaGreat
open Go.RowKit

theorem result1 (lo hi : Int) (w : World) : Calls Tryz.prog 125 #[.agg #[.int .i64 lo, .int .i64 hi]] w fun e w' => e = .returned (.bool (!okS lo hi)) ∧ Below w.heap.size w w' := by
  go_enter Tryz.func125, Tryz.ntmps125
  go_wp2_with (go_at_call 80; refine (interval_Valid _ _ _).mono ?_; rintro e w' ⟨rfl, hb⟩)
  go_ret
  exact ⟨rfl, below_then (below_alloc (Below.refl _ _) _) hb⟩

/-- interval.result, all spans and the made one valid. -/
theorem result_ok (g : Nat) (lb : Array Value) (lo hi : Int) (A : Option Addr) (n c : Nat) (zs : List (Int × Int)) (w : World) (B : Nat)
    (eg : ∀ args w, (callFunc g args).run Tryz.prog w = .ok (.enter g args) w) (hB : B ≤ w.heap.size) (hr : RdL encSp 2 w B A n zs) (hv : ∀ s ∈ zs, okS s.1 s.2 = true)
    (hg : ∀ W, Below w.heap.size w W → Calls Tryz.prog g lb W fun e w' => e = .returned (.agg #[.int .i64 lo, .int .i64 hi]) ∧ Below W.heap.size W w') (ho : okS lo hi = true) :
    Calls Tryz.prog 114 #[.func (.func g) #[] lb, .slice A n c] w fun e w' => e = .returned (.tuple #[.agg #[.int .i64 lo, .int .i64 hi], .int .i64 0]) ∧ Below w.heap.size w w' := by
  have F := Lib.hid (hg)
  have e1 : ∀ args w, (callFunc 125 args).run Tryz.prog w = .ok (.enter 125 args) w := enters_of Tryz.func125 (by kernel_rfl) rfl
  have C : ∀ W, Below w.heap.size w W → Calls Tryz.prog 124 #[.slice A n c, .func (.func 125) #[] #[]] W fun e w' => e = .returned (.bool false) ∧ Below W.heap.size W w' := by
    intro W hW
    refine (ContainsFunc_Sp 125 #[] (fun s => !okS s.1 s.2) A n c zs W B e1 (Nat.le_trans hB hW.size) (hr.below hW hB) (fun W' x _ => result1 x.1 x.2 W')).mono ?_
    rintro e w' ⟨rfl, hb⟩
    refine ⟨ret_bool ?_, hb⟩
    rw [List.any_eq_false]
    intro s hs
    simp [hv s hs]
  have C' := Lib.hid C
  have V := Lib.hid fun W => interval_Valid lo hi W
  rw [ho] at V
  clear C hg hv hr e1 ho hB
  go_enter Tryz.func114, Tryz.ntmps114
  go_wp2_with fail
  refine (C'.out _ (below_alloc (Below.refl _ _) _)).mono ?_
  rintro e w1 ⟨rfl, hb1⟩
  have hB1 := Lib.hid (below_then (below_alloc (Below.refl _ _) _) hb1)
  obtain ⟨hc1, hf1⟩ := bcell hb1
  have hz1 : w.heap.size < w1.heap.size := by have := hb1.size; simp at this; omega
  clear hb1
  go_wp2_with fail
  refine (F.out _ hB1.out).mono ?_
  rintro e w2 ⟨rfl, hb2⟩
  have hB2 := Lib.hid (below_then hB1.out hb2)
  obtain ⟨hc2, hf2⟩ := bcell hb2
  have hz2 : w.heap.size < w2.heap.size := by have := hb2.size; omega
  clear hb2 hB1
  go_wp2_with fail
  refine (V.out _).mono ?_
  rintro e w3 ⟨rfl, hb3⟩
  have hB3 := Lib.hid (below_then (below_alloc hB2.out _) hb3)
  obtain ⟨hc3, hf3⟩ := bcell hb3
  have hz3 : w2.heap.size < w3.heap.size := by have := hb3.size; simp at this; omega
  clear hb3 hB2
  have k0 : w3.cell? ⟨w.heap.size, 0, none⟩ = some (.int .i64 0) := by go_simp
  have k1 : w3.cell? ⟨w.heap.size, 1, none⟩ = some (.int .i64 0) := by go_simp
  go_wp2
  exact bodyPost_ret (v := .tuple #[.agg #[.int .i64 lo, .int .i64 hi], .int .i64 0]) (by rw [results_cell_tmp Tryz.results114]; go_simp) rfl ⟨rfl, by repeat (first | exact hB3.out | refine below_alloc ?_ _ | refine below_drewN ?_ _ | refine below_set ?_ (by simp) _)⟩

/-- The sum's closure: its two boxes hold the spans. -/
theorem Add1 (a b : Nat) (lo hi lo' hi' : Int) (w : World) (h1 : -9223372036854775808 ≤ lo + lo') (h2 : lo + lo' ≤ 9223372036854775807) (h3 : -9223372036854775808 ≤ hi + hi') (h4 : hi + hi' ≤ 9223372036854775807)
    (a0 : w.cell? ⟨a, 0, none⟩ = some (.int .i64 lo)) (a1 : w.cell? ⟨a, 1, none⟩ = some (.int .i64 hi)) (b0 : w.cell? ⟨b, 0, none⟩ = some (.int .i64 lo')) (b1 : w.cell? ⟨b, 1, none⟩ = some (.int .i64 hi')) (ha : a < w.heap.size) (hb : b < w.heap.size) :
    Calls Tryz.prog 115 #[.pointer (some ⟨a, 0, none⟩), .pointer (some ⟨b, 0, none⟩)] w fun e w' => e = .returned (.agg #[.int .i64 (lo + lo'), .int .i64 (hi + hi')]) ∧ Below w.heap.size w w' := by
  go_enter Tryz.func115, Tryz.ntmps115
  go_wp2
  exact bodyPost_ret (v := .agg #[.int .i64 (lo + lo'), .int .i64 (hi + hi')]) (by simp [results, Tryz.results115, go_sem]) rfl ⟨rfl, by repeat (first | exact Below.refl _ _ | refine below_alloc ?_ _ | refine below_set ?_ (by simp) _)⟩

theorem Add_ok (lo hi lo' hi' : Int) (w : World) (ho : okS lo hi = true) (ho' : okS lo' hi' = true) (hs : okS (lo + lo') (hi + hi') = true) :
    Calls Tryz.prog 104 #[.agg #[.int .i64 lo, .int .i64 hi], .agg #[.int .i64 lo', .int .i64 hi']] w fun e w' => e = .returned (.tuple #[.agg #[.int .i64 (lo + lo'), .int .i64 (hi + hi')], .int .i64 0]) ∧ Below w.heap.size w w' := by
  have eg : ∀ args w, (callFunc 115 args).run Tryz.prog w = .ok (.enter 115 args) w := enters_of Tryz.func115 (by kernel_rfl) rfl
  have R : ∀ (W : World) (g : Nat), Below w.heap.size w W → w.heap.size + 1 < W.heap.size → g < W.heap.size → W.cell? ⟨w.heap.size, 0, none⟩ = some (.int .i64 lo) → W.cell? ⟨w.heap.size, 1, none⟩ = some (.int .i64 hi) → W.cell? ⟨w.heap.size + 1, 0, none⟩ = some (.int .i64 lo') → W.cell? ⟨w.heap.size + 1, 1, none⟩ = some (.int .i64 hi') →
      W.cell? ⟨g, 0, none⟩ = some (.int .i64 lo) → W.cell? ⟨g, 1, none⟩ = some (.int .i64 hi) → W.cell? ⟨g, 2, none⟩ = some (.int .i64 lo') → W.cell? ⟨g, 3, none⟩ = some (.int .i64 hi') →
      Calls Tryz.prog 114 #[.func (.func 115) #[] #[.pointer (some ⟨w.heap.size, 0, none⟩), .pointer (some ⟨w.heap.size + 1, 0, none⟩)], .slice (some ⟨g, 0, none⟩) 2 2] W fun e w' => e = .returned (.tuple #[.agg #[.int .i64 (lo + lo'), .int .i64 (hi + hi')], .int .i64 0]) ∧ Below W.heap.size W w' := by
    intro W g hW hz hg a0 a1 b0 b1 c0 c1 c2 c3
    refine result_ok _ _ (lo + lo') (hi + hi') (some ⟨g, 0, none⟩) 2 2 [(lo, hi), (lo', hi')] W W.heap.size eg (Nat.le_refl _) ⟨rfl, by omega, fun _ => ⟨g, 0, rfl, hg, ?_⟩⟩ ?_ ?_ hs
    · intro i x hx j u hu
      match i, x, hx with
      | 0, _, rfl =>
        match j, u, hu with
        | 0, _, rfl => exact c0
        | 1, _, rfl => exact c1
      | 1, _, rfl =>
        match j, u, hu with
        | 0, _, rfl => exact c2
        | 1, _, rfl => exact c3
    · intro s hs
      simp at hs
      rcases hs with rfl | rfl
      · exact ho
      · exact ho'
    · intro W' hW'
      have s := okS_iff.1 hs
      have hz' := hW'.size
      exact Add1 _ _ lo hi lo' hi' W' (by omega) (by omega) (by omega) (by omega) ((hW'.cell (p := ⟨w.heap.size, 0, none⟩) (by show w.heap.size < _; omega)).trans a0) ((hW'.cell (p := ⟨w.heap.size, 1, none⟩) (by show w.heap.size < _; omega)).trans a1) ((hW'.cell (p := ⟨w.heap.size + 1, 0, none⟩) hz).trans b0) ((hW'.cell (p := ⟨w.heap.size + 1, 1, none⟩) hz).trans b1) (by omega) (by omega)
  have R' := Lib.hid R
  clear R eg ho ho' hs
  go_enter Tryz.func104, Tryz.ntmps104
  go_wp2_with fail
  refine (R'.out _ (w.heap.size + 3) ?_ ?_ ?_ ?_ ?_ ?_ ?_ ?_ ?_ ?_ ?_).mono ?_
  · repeat (first | exact Below.refl _ _ | refine below_alloc ?_ _)
  all_goals try (go_simp; done)
  all_goals try (simp; omega)
  rintro e w1 ⟨rfl, hb1⟩
  have hB1 := Lib.hid (below_then (below_alloc (below_alloc (below_alloc (below_alloc (Below.refl _ _) _) _) _) _) hb1)
  obtain ⟨hc1, hf1⟩ := bcell hb1
  clear hb1
  have k0 : w1.cell? ⟨w.heap.size + 2, 0, none⟩ = some (.int .i64 0) := by go_simp
  have k1 : w1.cell? ⟨w.heap.size + 2, 1, none⟩ = some (.int .i64 0) := by go_simp
  go_wp2
  exact bodyPost_ret (v := .tuple #[.agg #[.int .i64 (lo + lo'), .int .i64 (hi + hi')], .int .i64 0]) (by rw [results_cell_tmp Tryz.results104]; go_simp) rfl ⟨rfl, by repeat (first | exact hB1.out | refine below_alloc ?_ _ | refine below_set ?_ (by omega) _)⟩

/-- The projection's closure. -/
theorem Project1 (a : Nat) (lo hi lo' hi' : Int) (w : World) (ho : okS lo hi = true) (ho' : okS lo' hi' = true) (hs : okS (lo + lo') (hi + hi') = true) (ha : a < w.heap.size)
    (a0 : w.cell? ⟨a, 0, none⟩ = some (.int .i64 lo)) (a1 : w.cell? ⟨a, 1, none⟩ = some (.int .i64 hi)) :
    Calls Tryz.prog 103 #[.agg #[.int .i64 lo', .int .i64 hi'], .pointer (some ⟨a, 0, none⟩)] w fun e w' => e = .returned (.tuple #[.agg #[.int .i64 (lo + lo'), .int .i64 (hi + hi')], .int .i64 0]) ∧ Below w.heap.size w w' := by
  have R' := Lib.hid fun W => Add_ok lo hi lo' hi' W ho ho' hs
  clear ho ho' hs
  go_enter Tryz.func103, Tryz.ntmps103
  go_wp2_with fail
  refine (R'.out _).mono ?_
  rintro e w1 ⟨rfl, hb1⟩
  have hB1 := Lib.hid (below_then (below_alloc (below_alloc (Below.refl _ _) _) _) hb1)
  obtain ⟨hc1, hf1⟩ := bcell hb1
  clear hb1
  have k0 : w1.cell? ⟨w.heap.size + 1, 0, none⟩ = some (.int .i64 0) := by go_simp
  have k1 : w1.cell? ⟨w.heap.size + 1, 1, none⟩ = some (.int .i64 0) := by go_simp
  go_wp2
  exact bodyPost_ret (v := .tuple #[.agg #[.int .i64 (lo + lo'), .int .i64 (hi + hi')], .int .i64 0]) (by rw [results_cell_tmp Tryz.results103]; go_simp) rfl ⟨rfl, by repeat (first | exact hB1.out | refine below_alloc ?_ _ | refine below_set ?_ (by omega) _)⟩

theorem Project_ok (lo hi d p : Int) (w : World) (ho : okS lo hi = true) (d0 : 0 ≤ d) (d1 : d ≤ 576460752303423488) (p0 : 0 ≤ p) (p1 : p ≤ 1000000) (hh : hi + elHi d p ≤ 1152921504606846976) :
    Calls Tryz.prog 83 #[.agg #[.int .i64 lo, .int .i64 hi], .int .i64 d, .int .i64 p] w fun e w' => e = .returned (.tuple #[.agg #[.int .i64 (lo + elLo d p), .int .i64 (hi + elHi d p)], .int .i64 0]) ∧ Below w.heap.size w w' := by
  have s := okS_iff.1 ho
  have l0 := elLo_nonneg d0 p0
  have l1 := elLo_le d0 p0
  have u0 := elHi_ge d0 p0 p1
  have u1 := elHi_le d0 p0 p1
  have ho' : okS (elLo d p) (elHi d p) = true := okS_mk (by omega) (by omega) (by omega)
  have hs : okS (lo + elLo d p) (hi + elHi d p) = true := okS_mk (by omega) (by omega) (by omega)
  have E := Lib.hid fun W => Elapsed_ok d p W d0 d1 p0 p1
  have V := Lib.hid fun W => interval_Valid lo hi W
  rw [ho] at V
  generalize elLo d p = l at *
  generalize elHi d p = u at *
  have P := Lib.hid fun W a => Project1 a lo hi l u W ho ho' hs
  have eg : ∀ args w, (callFunc 103 args).run Tryz.prog w = .ok (.enter 103 args) w := enters_of Tryz.func103 (by kernel_rfl) rfl
  clear ho ho' hs s l0 l1 u0 u1 hh
  -- the walk of 'moved'
  have M : ∀ (W : World), w.heap.size < W.heap.size → W.cell? ⟨w.heap.size, 0, none⟩ = some (.int .i64 lo) → W.cell? ⟨w.heap.size, 1, none⟩ = some (.int .i64 hi) →
      Calls Tryz.prog 102 #[.agg #[.int .i64 lo, .int .i64 hi], .int .i64 d, .int .i64 p, .func (.func 103) #[] #[.pointer (some ⟨w.heap.size, 0, none⟩)]] W fun e w' => e = .returned (.tuple #[.agg #[.int .i64 (lo + l), .int .i64 (hi + u)], .int .i64 0]) ∧ Below W.heap.size W w' := by
    intro W hz a0 a1
    have g0 : Blk ((W.alloc (.cells #[.int .i64 lo, .int .i64 hi] 51)).alloc (.cells #[.int .i64 0, .int .i64 0] 51)) (W.heap.size + 1) 51 #[.int .i64 0, .int .i64 0] := by simpa using Blk.new (W.alloc (.cells #[.int .i64 lo, .int .i64 hi] 51)) 51 #[.int .i64 0, .int .i64 0]
    have H0 := Lib.hid g0
    clear g0
    go_enter Tryz.func102, Tryz.ntmps102
    go_wp2_with fail
    refine (V.out _).mono ?_
    rintro e w1 ⟨rfl, hb1⟩
    have H1 := Lib.hid (H0.out.keep hb1)
    have hB1 := Lib.hid (below_then (below_alloc (below_alloc (Below.refl _ _) _) _) hb1)
    clear hb1
    go_wp2_with fail
    refine (E.out _).mono ?_
    rintro e w2 ⟨rfl, hb2⟩
    have H2 := Lib.hid (H1.out.keep hb2)
    have hB2 := Lib.hid (below_then hB1.out hb2)
    clear hb2 hB1
    go_wp2_with fail
    have a2 := cell_keep hB2.out a0
    have a3 := cell_keep hB2.out a1
    have hz2 := hB2.out.size
    refine (P.out _ _ ?_ ?_ ?_).mono ?_
    · simp; omega
    · exact cell_keep (below_alloc (Below.refl _ _) _) a2
    · exact cell_keep (below_alloc (Below.refl _ _) _) a3
    rintro e w3 ⟨rfl, hb3⟩
    have hB3 := Lib.hid (below_then (below_alloc hB2.out _) hb3)
    obtain ⟨k0, k1, f0, f1⟩ := blk2 ((H2.out.alloc _).keep hb3)
    clear hb3 hB2 a2 a3
    go_wp2
    exact bodyPost_ret (v := .tuple #[.agg #[.int .i64 (lo + l), .int .i64 (hi + u)], .int .i64 0]) (by rw [results_cell_tmp Tryz.results102]; go_simp) rfl ⟨rfl, by repeat (first | exact hB3.out | refine below_alloc ?_ _ | refine below_set ?_ (by omega) _)⟩
  have M' := Lib.hid M
  clear M E V P eg
  go_enter Tryz.func83, Tryz.ntmps83
  go_wp2_with fail
  refine (M'.out _ ?_ ?_ ?_).mono ?_
  · simp; omega
  · go_simp
  · go_simp
  rintro e w1 ⟨rfl, hb1⟩
  have hB1 := Lib.hid (below_then (below_alloc (below_alloc (Below.refl _ _) _) _) hb1)
  obtain ⟨hc1, hf1⟩ := bcell hb1
  clear hb1
  have k0 : w1.cell? ⟨w.heap.size + 1, 0, none⟩ = some (.int .i64 0) := by go_simp
  have k1 : w1.cell? ⟨w.heap.size + 1, 1, none⟩ = some (.int .i64 0) := by go_simp
  go_wp2
  exact bodyPost_ret (v := .tuple #[.agg #[.int .i64 (lo + l), .int .i64 (hi + u)], .int .i64 0]) (by rw [results_cell_tmp Tryz.results83]; go_simp) rfl ⟨rfl, by repeat (first | exact hB1.out | refine below_alloc ?_ _ | refine below_set ?_ (by omega) _)⟩
end Go.Proofs.YtnafhblioabkgaaGreat
/- What the program's layer 37 answers, for what is known and in its ranges. -/
namespace Go.Proofs.YtnafhblioabkgaaGreat
open Go.RowKit

theorem counted_yes (n : Int) (w : World) (h0 : 0 ≤ n) (h1 : n ≤ 1152921504606846976) : Calls Tryz.prog 99 #[.int .i64 n] w fun e w' => e = .returned (.bool true) ∧ w = w' := by
  go_enter Tryz.func99, Tryz.ntmps99
  go_wp2
  go_ret
  exact ⟨ret_bool (by first | (simp; done) | (simp; omega)), rfl⟩

theorem certified_Check (k : Kn) (w : World) (hk : k.good) :
    Calls Tryz.prog 79 #[.agg #[.int .i64 k.a, .int .i64 k.lo, .int .i64 k.hi, .int .i64 k.ppb, .int .i64 k.learnt, .int .i64 k.refused]] w fun e w' => e = .returned (.int .i64 0) ∧ Below w.heap.size w w' := by
  obtain ⟨a, lo, hi, ppb, learnt, refused⟩ := k
  obtain ⟨hs, ha, p0, p1, l0, l1, r0, r1⟩ := hk
  dsimp only at *
  have V := Lib.hid fun W => interval_Valid lo hi W
  rw [hs] at V
  have T := Lib.hid fun W => ticks_Valid a W
  rw [ha] at T
  have t1 : decide (ppb < 0) = false := by simp; omega
  have t2 : decide (1000000 < ppb) = false := by simp; omega
  have H0 := Lib.hid (Blk.new w 64 #[.int .i64 a, .int .i64 lo, .int .i64 hi, .int .i64 ppb, .int .i64 learnt, .int .i64 refused])
  clear hs ha
  go_enter Tryz.func79, Tryz.ntmps79
  go_wp2_with fail
  refine (V.out _).mono ?_
  rintro e w1 ⟨rfl, hb1⟩
  obtain ⟨k0, k1, k2, k3, k4, k5⟩ := blk6 (H0.out.keep hb1)
  have hB1 := Lib.hid (below_then (below_alloc (Below.refl _ _) _) hb1)
  clear hb1
  go_wp2_with (first | (go_at_call 58; refine (T.out _).mono ?_; rintro e w' ⟨rfl, rfl⟩) | (go_at_call 99; refine (counted_yes _ _ (by omega) (by omega)).mono ?_; rintro e w' ⟨rfl, rfl⟩))
  go_ret
  exact ⟨rfl, hB1.out⟩

set_option maxHeartbeats 1000000 in
theorem Begin_ok (a lo hi ppb : Int) (w : World) (hs : okS lo hi = true) (ha : okT a = true) (p0 : 0 ≤ ppb) (p1 : ppb ≤ 1000000) :
    Calls Tryz.prog 60 #[.int .i64 a, .agg #[.int .i64 lo, .int .i64 hi], .int .i64 ppb] w fun e w' => e = .returned (.tuple #[.agg #[.int .i64 a, .int .i64 lo, .int .i64 hi, .int .i64 ppb, .int .i64 0, .int .i64 0], .int .i64 0]) ∧ Below w.heap.size w w' := by
  have C := Lib.hid fun W => certified_Check ⟨a, lo, hi, ppb, 0, 0⟩ W ⟨hs, ha, p0, p1, Int.le_refl _, by show (0 : Int) ≤ _; omega, Int.le_refl _, by show (0 : Int) ≤ _; omega⟩
  clear hs ha
  go_enter Tryz.func60, Tryz.ntmps60
  go_wp2_with fail
  refine (C.out _).mono ?_
  rintro e w1 ⟨rfl, hb1⟩
  have g1 := ((Blk.new1 _ _ _ _).alloc _).keep hb1
  have g2 := (Blk.new2 _ _ _ _ _).keep hb1
  have hB1 := Lib.hid (below_then (below_alloc (below_alloc (below_alloc (Below.refl _ _) _) _) _) hb1)
  obtain ⟨k0, k1, k2, k3, k4, k5⟩ := blk6 g1
  obtain ⟨f0, f1, f2, f3, f4, f5⟩ := frz6 g1
  obtain ⟨q0, q1, q2, q3, q4, q5⟩ := blk6 g2
  clear hb1 g1 g2
  go_wp2
  exact bodyPost_ret (v := .tuple #[.agg #[.int .i64 a, .int .i64 lo, .int .i64 hi, .int .i64 ppb, .int .i64 0, .int .i64 0], .int .i64 0]) (by rw [results_cell_tmp Tryz.results60]; go_simp) rfl ⟨rfl, by repeat (with_reducible first | exact hB1.out | refine below_alloc ?_ _ | refine below_set ?_ (by omega) _)⟩

set_option maxHeartbeats 1000000 in
theorem Now_ok (k : Kn) (t : Int) (w : World) (hk : k.goodAt t) :
    Calls Tryz.prog 63 #[.agg #[.int .i64 k.a, .int .i64 k.lo, .int .i64 k.hi, .int .i64 k.ppb, .int .i64 k.learnt, .int .i64 k.refused], .int .i64 t] w fun e w' => e = .returned (.tuple #[.agg #[.int .i64 (k.nowLo t), .int .i64 (k.nowHi t)], .int .i64 0]) ∧ Below w.heap.size w w' := by
  have C := Lib.hid fun W => certified_Check k W hk.g
  have T := Lib.hid fun W => ticks_Valid t W
  rw [hk.v] at T
  have o := hk.o
  have d1 := hk.d
  have a0 := okT_iff.1 hk.g.a
  have b0 := okT_iff.1 hk.v
  have P := Lib.hid fun W => Project_ok k.lo k.hi (t - k.a) k.ppb W hk.g.s (by omega) d1 hk.g.p0 hk.g.p1 hk.h
  unfold Kn.nowLo Kn.nowHi
  obtain ⟨a, lo, hi, ppb, learnt, refused⟩ := k
  dsimp only at *
  generalize lo + elLo (t - a) ppb = l at *
  generalize hi + elHi (t - a) ppb = u at *
  clear hk
  have t1 : decide (t < a) = false := by simp; omega
  go_enter Tryz.func63, Tryz.ntmps63
  go_wp2_with fail
  refine (C.out _).mono ?_
  rintro e w1 ⟨rfl, hb1⟩
  have g0 := ((Blk.new _ _ _).alloc _).keep hb1
  have G1 := Lib.hid ((Blk.new1 _ _ _ _).keep hb1)
  have hB1 := Lib.hid (below_then (below_alloc (below_alloc (Below.refl _ _) _) _) hb1)
  obtain ⟨k0, k1, k2, k3, k4, k5⟩ := blk6 g0
  clear hb1 g0
  go_wp2_with (go_at_call 58; refine (T.out _).mono ?_; rintro e w' ⟨rfl, rfl⟩)
  refine (P.out _).mono ?_
  rintro e w2 ⟨rfl, hb2⟩
  have hB2 := Lib.hid (below_then hB1.out hb2)
  obtain ⟨r0, r1, f0, f1⟩ := blk2 (G1.out.keep hb2)
  clear hb2 hB1 k0 k1 k2 k3 k4 k5
  go_wp2
  exact bodyPost_ret (v := .tuple #[.agg #[.int .i64 l, .int .i64 u], .int .i64 0]) (by rw [results_cell_tmp Tryz.results63]; go_simp) rfl ⟨rfl, by repeat (with_reducible first | exact hB2.out | refine below_alloc ?_ _ | refine below_set ?_ (by omega) _)⟩

theorem okS_valid (lo hi : Int) (W : World) (h : okS lo hi = true) : Calls Tryz.prog 80 #[.agg #[.int .i64 lo, .int .i64 hi]] W fun e w' => e = .returned (.bool true) ∧ Below W.heap.size W w' := by
  have := interval_Valid lo hi W
  rwa [h] at this

set_option maxHeartbeats 1000000 in
theorem Meet_yes (lo hi lo' hi' : Int) (w : World) (ho : okS lo hi = true) (ho' : okS lo' hi' = true) (hm : max lo lo' ≤ min hi hi') :
    Calls Tryz.prog 81 #[.agg #[.int .i64 lo, .int .i64 hi], .agg #[.int .i64 lo', .int .i64 hi']] w fun e w' => e = .returned (.tuple #[.agg #[.int .i64 (max lo lo'), .int .i64 (min hi hi')], .bool true]) ∧ Below w.heap.size w w' := by
  have s1 := okS_iff.1 ho
  have s2 := okS_iff.1 ho'
  have V1 := Lib.hid fun W => okS_valid lo hi W ho
  have V2 := Lib.hid fun W => okS_valid lo' hi' W ho'
  have V3 := Lib.hid fun W => interval_Valid (max lo lo') (min hi hi') W
  rw [show okS (max lo lo') (min hi hi') = true from okS_mk (by omega) hm (by omega)] at V3
  clear ho ho' hm s1 s2
  go_enter Tryz.func81, Tryz.ntmps81
  go_wp2_with fail
  refine (V1.out _).mono ?_
  rintro e w1 ⟨rfl, hb1⟩
  obtain ⟨a0, a1, _, _⟩ := blk2 (((Blk.new1 _ _ _ _).alloc _).alloc _ |>.keep hb1)
  have G1 := Lib.hid ((Blk.new2 _ _ _ _ _).alloc _ |>.keep hb1)
  have G2 := Lib.hid ((Blk.new3 _ _ _ _ _ _).keep hb1)
  have hB1 := Lib.hid (below_then (below_alloc (below_alloc (below_alloc (below_alloc (Below.refl _ _) _) _) _) _) hb1)
  clear hb1
  go_wp2_with fail
  refine (V2.out _).mono ?_
  rintro e w2 ⟨rfl, hb2⟩
  have hB2 := Lib.hid (below_then hB1.out hb2)
  have G3 := Lib.hid (G1.out.keep hb2)
  have G4 := Lib.hid (G2.out.keep hb2)
  obtain ⟨b0, b1, _, _⟩ := blk2 G4.out
  clear hb2 hB1 a0 a1 G1 G2
  go_wp2_with fail
  refine (V3.out _).mono ?_
  rintro e w3 ⟨rfl, hb3⟩
  have hB3 := Lib.hid (below_then hB2.out hb3)
  obtain ⟨c0, c1, _, _⟩ := blk2 (G3.out.keep hb3)
  obtain ⟨d0, d1, _, _⟩ := blk2 (G4.out.keep hb3)
  clear hb3 hB2 b0 b1 G3 G4
  go_wp2
  exact bodyPost_ret (v := .tuple #[.agg #[.int .i64 (max lo lo'), .int .i64 (min hi hi')], .bool true]) (by rw [results_cell_tmp Tryz.results81]; go_simp) rfl ⟨rfl, by repeat (with_reducible first | exact hB3.out | refine below_alloc ?_ _ | refine below_set ?_ (by omega) _)⟩

set_option maxHeartbeats 1000000 in
theorem Meet_no (lo hi lo' hi' : Int) (w : World) (ho : okS lo hi = true) (ho' : okS lo' hi' = true) (hm : ¬ max lo lo' ≤ min hi hi') :
    Calls Tryz.prog 81 #[.agg #[.int .i64 lo, .int .i64 hi], .agg #[.int .i64 lo', .int .i64 hi']] w fun e w' => e = .returned (.tuple #[.agg #[.int .i64 0, .int .i64 0], .bool false]) ∧ Below w.heap.size w w' := by
  have s1 := okS_iff.1 ho
  have s2 := okS_iff.1 ho'
  have V1 := Lib.hid fun W => okS_valid lo hi W ho
  have V2 := Lib.hid fun W => okS_valid lo' hi' W ho'
  have V3 := Lib.hid fun W => interval_Valid (max lo lo') (min hi hi') W
  rw [show okS (max lo lo') (min hi hi') = false from by rw [Bool.eq_false_iff]; intro h; have := okS_iff.1 h; omega] at V3
  clear ho ho' hm s1 s2
  go_enter Tryz.func81, Tryz.ntmps81
  go_wp2_with fail
  refine (V1.out _).mono ?_
  rintro e w1 ⟨rfl, hb1⟩
  obtain ⟨a0, a1, _, _⟩ := blk2 (((Blk.new1 _ _ _ _).alloc _).alloc _ |>.keep hb1)
  have G1 := Lib.hid ((Blk.new2 _ _ _ _ _).alloc _ |>.keep hb1)
  have G2 := Lib.hid ((Blk.new3 _ _ _ _ _ _).keep hb1)
  have hB1 := Lib.hid (below_then (below_alloc (below_alloc (below_alloc (below_alloc (Below.refl _ _) _) _) _) _) hb1)
  clear hb1
  go_wp2_with fail
  refine (V2.out _).mono ?_
  rintro e w2 ⟨rfl, hb2⟩
  have hB2 := Lib.hid (below_then hB1.out hb2)
  have G3 := Lib.hid (G1.out.keep hb2)
  have G4 := Lib.hid (G2.out.keep hb2)
  obtain ⟨b0, b1, _, _⟩ := blk2 G4.out
  clear hb2 hB1 a0 a1 G1 G2
  go_wp2_with fail
  refine (V3.out _).mono ?_
  rintro e w3 ⟨rfl, hb3⟩
  have hB3 := Lib.hid (below_then hB2.out hb3)
  obtain ⟨c0, c1, _, _⟩ := blk2 (G3.out.keep hb3)
  obtain ⟨d0, d1, _, _⟩ := blk2 (G4.out.keep hb3)
  clear hb3 hB2 b0 b1 G3 G4
  go_wp2
  exact bodyPost_ret (v := .tuple #[.agg #[.int .i64 0, .int .i64 0], .bool false]) (by rw [results_cell_tmp Tryz.results81]; go_simp) rfl ⟨rfl, by repeat (with_reducible first | exact hB3.out | refine below_alloc ?_ _ | refine below_set ?_ (by omega) _)⟩

end Go.Proofs.YtnafhblioabkgaaGreat
