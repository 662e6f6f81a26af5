/- The statements' maker of schedules: a tape of numbers. -/
import Derived.Test.YtnafhblioabkgaaGreatRSim
import Derived.Test.YtnafhblioabkgaaGreatRSpan
namespace Go.Proofs.YtnafhblioabkgaaGreat
open Go.RowKit

theorem Within_ok (v n : Int) (w : World) (h0 : 0 < n) (h1 : n ≤ 4611686018427387904) :
    Calls Tryz.prog 18 #[.int .i64 v, .int .i64 n] w fun e w' => (∃ r : Int, e = .returned (.int .i64 r) ∧ 0 ≤ r ∧ r < n) ∧ w = w' := by
  have a1 := Int.tmod_lt_of_pos v h0
  have a2 := Int.lt_tmod_of_pos v h0
  have a3 : ¬ n = 0 := by omega
  have a4 : (n == 0) = false := by simp; omega
  generalize hm : v.tmod n = m at *
  by_cases h : m < 0
  · have t : decide (m < 0) = true := by simp [h]
    have e : IntKind.i64.wrap (m + n) = m + n := IntWalk.i64_in _ (by omega)
    go_enter Tryz.func18, Tryz.ntmps18
    go_wp2
    go_ret
    exact ⟨⟨_, rfl, by omega, by omega⟩, rfl⟩
  · have t : decide (m < 0) = false := by simp; omega
    go_enter Tryz.func18, Tryz.ntmps18
    go_wp2
    go_ret
    exact ⟨⟨_, rfl, by omega, by omega⟩, rfl⟩

/-- A tape stands in block g; its numbers lie below B. -/
structure Tp (w : World) (g B : Nat) (A : Option Addr) (n c : Nat) (l : List Int) : Prop where
  blk : ∃ k : Nat, k ≤ n ∧ Blk w g 57 #[.slice A n c, .int .i64 k]
  rd : RdL encI 1 w B A n l
  lt : B ≤ g
theorem Tp.size {w : World} {g B : Nat} {A : Option Addr} {n c : Nat} {l : List Int} (h : Tp w g B A n c l) : g < w.heap.size := by
  obtain ⟨k, _, hb⟩ := h.blk
  exact hb.lt
theorem Tp.below {w w' : World} {g B : Nat} {A : Option Addr} {n c : Nat} {l : List Int} (h : Tp w g B A n c l) (hb : Below w.heap.size w w') : Tp w' g B A n c l := by
  obtain ⟨k, hk, hg⟩ := h.blk
  exact ⟨⟨k, hk, hg.keep hb⟩, h.rd.below hb (by have := h.size; have := h.lt; omega), h.lt⟩
theorem Tp.drewN {w : World} {g B : Nat} {A : Option Addr} {n c : Nat} {l : List Int} (h : Tp w g B A n c l) (p : Nat) : Tp (w.drewN p) g B A n c l := h.below (below_drewN (Below.refl _ _) p)
theorem Next_ok (w : World) (g B : Nat) (A : Option Addr) (n c : Nat) (l : List Int) (h : Tp w g B A n c l) :
    Calls Tryz.prog 39 #[.pointer (some ⟨g, 0, none⟩)] w fun e w' => (∃ v : Int, e = .returned (.int .i64 v)) ∧ Tp w' g B A n c l ∧ Only g g w w' := by
  have hsz := h.size
  have hlt := h.lt
  obtain ⟨⟨k, hk, hb⟩, hr, _⟩ := h
  have hbig := hr.big
  obtain ⟨a0, a1, f0, f1⟩ := blk2 hb
  by_cases h : k < n
  · obtain ⟨b, off, x, rfl, hbB, hz, hd, c0⟩ := hr.getI h
    have t : decide ((k : Int) ≥ n) = false := by simp; omega
    have e1 : IntKind.i64.wrap ((k : Int) + 1) = (k : Int) + 1 := IntWalk.i64_in _ (by omega)
    have e2 : IntKind.i64.wrap ((k : Int) + 1 - 1) = (k : Int) := by rw [show (k : Int) + 1 - 1 = k by omega]; exact IntWalk.i64_in _ (by omega)
    have hne : b ≠ g := by omega
    have K := Lib.hid fun (p q : Nat) => And.intro (Tp.drewN (w := (w.drewN p).setCell ⟨g, 1, none⟩ (.int .i64 ((k : Int) + 1))) (g := g) (B := B) (A := some ⟨b, off, none⟩) (n := n) (c := c) (l := l) ⟨⟨k + 1, h, by simpa using (hb.drewN p).set 1 (.int .i64 ((k : Int) + 1))⟩, (hr.drewN p).set hlt _, hlt⟩ q) ((((Only.refl g g w).drewN p).set (g := g) (o := 1) (r := none) (.inl rfl) (.int .i64 ((k : Int) + 1))).drewN q)
    have i1 : (0 : Int) ≤ (k : Int) := by omega
    have i2 : (k : Int) < (n : Int) := by omega
    clear hr hd hz hb
    go_enter Tryz.func39, Tryz.ntmps39
    go_wp2_with fail
    go_quiet (fail)
    go_wp2_with fail
    go_quiet (fail)
    go_wp2
    go_ret
    exact ⟨⟨_, rfl⟩, K.out _ _⟩
  · obtain rfl : k = n := by omega
    have K := Lib.hid fun (p : Nat) => (show Tp (w.drewN p) g B A k c l ∧ Only g g w (w.drewN p) from ⟨Tp.drewN ⟨⟨k, hk, hb⟩, hr, hlt⟩ p, (Only.refl _ _ _).drewN p⟩)
    have t : decide ((k : Int) ≥ k) = true := by simp
    clear hr hb
    go_enter Tryz.func39, Tryz.ntmps39
    go_wp2_with fail
    go_quiet (fail)
    go_wp2
    go_ret
    exact ⟨⟨_, rfl⟩, K.out _⟩
theorem Int_ok (m : Int) (w : World) (g B : Nat) (A : Option Addr) (n c : Nat) (l : List Int) (h : Tp w g B A n c l) (h0 : 0 < m) (h1 : m ≤ 4611686018427387904) :
    Calls Tryz.prog 20 #[.pointer (some ⟨g, 0, none⟩), .int .i64 m] w fun e w' => (∃ v : Int, e = .returned (.int .i64 v) ∧ 0 ≤ v ∧ v < m) ∧ Tp w' g B A n c l ∧ Only g g w w' := by
  have N := Lib.hid (Next_ok w g B A n c l h)
  have W := Lib.hid fun v w => Within_ok v m w h0 h1
  clear h
  go_enter Tryz.func20, Tryz.ntmps20
  go_wp2_with fail
  refine (N.out).mono ?_
  rintro e w1 ⟨⟨v, rfl⟩, ht, ho⟩
  have K := Lib.hid (And.intro ht ho)
  clear ht ho
  go_wp2_with fail
  refine (W.out _ _).mono ?_
  rintro e w2 ⟨⟨r, rfl, r0, r1⟩, rfl⟩
  go_wp2
  go_ret
  exact ⟨⟨_, rfl, r0, r1⟩, K.out⟩
theorem Range_ok (lo hi : Int) (w : World) (g B : Nat) (A : Option Addr) (n c : Nat) (l : List Int) (h : Tp w g B A n c l) (h0 : -1000000 ≤ lo) (h1 : lo ≤ hi) (h2 : hi ≤ 1000000) :
    Calls Tryz.prog 19 #[.pointer (some ⟨g, 0, none⟩), .int .i64 lo, .int .i64 hi] w fun e w' => (∃ v : Int, e = .returned (.int .i64 v) ∧ lo ≤ v ∧ v ≤ hi) ∧ Tp w' g B A n c l ∧ Only g g w w' := by
  have N := Lib.hid (Int_ok (hi - lo + 1) w g B A n c l h (by omega) (by omega))
  have e1 : IntKind.i64.wrap (hi - lo) = hi - lo := IntWalk.i64_in _ (by omega)
  have e2 : IntKind.i64.wrap (hi - lo + 1) = hi - lo + 1 := IntWalk.i64_in _ (by omega)
  clear h
  go_enter Tryz.func19, Tryz.ntmps19
  go_wp2_with fail
  refine (N.out).mono ?_
  rintro e w1 ⟨⟨v, rfl, v0, v1⟩, ht, ho⟩
  have K := Lib.hid (And.intro ht ho)
  have e3 : IntKind.i64.wrap (lo + v) = lo + v := IntWalk.i64_in _ (by omega)
  clear ht ho
  go_wp2
  go_ret
  exact ⟨⟨_, rfl, by omega, by omega⟩, K.out⟩
theorem Bool_ok (m : Int) (w : World) (g B : Nat) (A : Option Addr) (n c : Nat) (l : List Int) (h : Tp w g B A n c l) (h0 : 0 < m) (h1 : m ≤ 1000000) :
    Calls Tryz.prog 42 #[.pointer (some ⟨g, 0, none⟩), .int .i64 m] w fun e w' => (∃ v : Bool, e = .returned (.bool v)) ∧ Tp w' g B A n c l ∧ Only g g w w' := by
  have N := Lib.hid (Int_ok m w g B A n c l h (by omega) (by omega))
  have e1 : IntKind.i64.wrap (m - 1) = m - 1 := IntWalk.i64_in _ (by omega)
  clear h
  go_enter Tryz.func42, Tryz.ntmps42
  go_wp2_with fail
  refine (N.out).mono ?_
  rintro e w1 ⟨⟨v, rfl, v0, v1⟩, ht, ho⟩
  have K := Lib.hid (And.intro ht ho)
  clear ht ho
  go_wp2
  go_ret
  exact ⟨⟨_, rfl⟩, K.out⟩
end Go.Proofs.YtnafhblioabkgaaGreat
/- The statements' maker of schedules: an advance of a clock. -/
namespace Go.Proofs.YtnafhblioabkgaaGreat
open Go.RowKit

theorem ratio_dn3 (a b c : Int) (w : World) (a0 : 0 ≤ a) (a1 : a ≤ 3000000) (b0 : 998000000 ≤ b) (b1 : b ≤ 1002000000) (c0 : 998000000 ≤ c) (c1 : c ≤ 1002000000) :
    Calls Tryz.prog 91 #[.int .i64 a, .int .i64 b, .int .i64 c, .bool false] w fun e w' => e = .returned (.int .i64 (a * b / c)) ∧ w = w' := by
  have hq : a / c = 0 := Int.ediv_eq_zero_of_lt a0 (by omega)
  have e1 : a.tdiv c = 0 := by rw [Int.tdiv_eq_ediv_of_nonneg a0, hq]
  have h0 : 0 ≤ a * b := Int.mul_nonneg a0 (by omega)
  have h1 : a * b ≤ 3000000 * 1002000000 := Int.mul_le_mul a1 b1 (by omega) (by omega)
  have r0 : 0 ≤ a * b / c := Int.ediv_nonneg h0 (by omega)
  have r1 : a * b / c ≤ 3000000 * 1002000000 := Int.ediv_le_of_le_mul (by omega) (by omega)
  have t3 : (c == 0) = false := by simp; omega
  have t4 : ¬ c = 0 := by omega
  have R := Lib.hid fun W => Rounded_down (a * b) c W h0 (by omega) (by omega)
  have w2 : IntKind.i64.wrap (a * b) = a * b := IntWalk.i64_in _ (by omega)
  have w3 : IntKind.i64.wrap (a * b / c) = a * b / c := IntWalk.i64_in _ (by omega)
  have w4 : IntKind.i64.wrap a = a := IntWalk.i64_in _ (by omega)
  have w5 : IntKind.i64.wrap (0 + a * b / c) = a * b / c := by rw [Int.zero_add]; exact w3
  have w6 : IntKind.i64.wrap (a - 0) = a := by rw [Int.sub_zero]; exact w4
  have w7 : IntKind.i64.wrap 0 = 0 := rfl
  generalize a * b / c = rr at *
  clear hq h1 h0 r1
  go_enter Tryz.func91, Tryz.ntmps91
  go_wp2_with (go_at_call 108; refine (R.out _).mono ?_; rintro e w' ⟨rfl, rfl⟩)
  go_ret
  exact ⟨rfl, rfl⟩
theorem ratio_up3 (a b c : Int) (w : World) (a0 : 0 ≤ a) (a1 : a ≤ 3000000) (b0 : 998000000 ≤ b) (b1 : b ≤ 1002000000) (c0 : 998000000 ≤ c) (c1 : c ≤ 1002000000) :
    Calls Tryz.prog 91 #[.int .i64 a, .int .i64 b, .int .i64 c, .bool true] w fun e w' => e = .returned (.int .i64 (cdiv (a * b) c)) ∧ w = w' := by
  have hq : a / c = 0 := Int.ediv_eq_zero_of_lt a0 (by omega)
  have e1 : a.tdiv c = 0 := by rw [Int.tdiv_eq_ediv_of_nonneg a0, hq]
  have h0 : 0 ≤ a * b := Int.mul_nonneg a0 (by omega)
  have h1 : a * b ≤ 3000000 * 1002000000 := Int.mul_le_mul a1 b1 (by omega) (by omega)
  have r0 : 0 ≤ cdiv (a * b) c := Int.ediv_nonneg (by omega) (by omega)
  have r1 : cdiv (a * b) c ≤ 3000000 * 1002000000 + 1002000000 := Int.ediv_le_of_le_mul (by omega) (by omega)
  have t3 : (c == 0) = false := by simp; omega
  have t4 : ¬ c = 0 := by omega
  have R := Lib.hid fun W => Rounded_up (a * b) c W h0 (by omega) (by omega)
  have w2 : IntKind.i64.wrap (a * b) = a * b := IntWalk.i64_in _ (by omega)
  have w4 : IntKind.i64.wrap a = a := IntWalk.i64_in _ (by omega)
  generalize cdiv (a * b) c = rr at *
  have w3 : IntKind.i64.wrap rr = rr := IntWalk.i64_in _ (by omega)
  have w5 : IntKind.i64.wrap (0 + rr) = rr := by rw [Int.zero_add]; exact w3
  have w6 : IntKind.i64.wrap (a - 0) = a := by rw [Int.sub_zero]; exact w4
  have w7 : IntKind.i64.wrap 0 = 0 := rfl
  clear hq h1 h0 r1
  go_enter Tryz.func91, Tryz.ntmps91
  go_wp2_with (go_at_call 108; refine (R.out _).mono ?_; rintro e w' ⟨rfl, rfl⟩)
  go_ret
  exact ⟨rfl, rfl⟩
theorem rAdvance_ok (d p : Int) (w : World) (d0 : 0 ≤ d) (d1 : d ≤ 3000000) (p0 : 0 ≤ p) (p1 : p ≤ 1000000) :
    Calls Tryz.prog 68 #[.int .i64 d, .int .i64 p] w fun e w' => (∃ lo hi : Int, e = .returned (.tuple #[.agg #[.int .i64 lo, .int .i64 hi], .int .i64 0]) ∧ 0 ≤ lo ∧ lo ≤ hi ∧ hi ≤ 4000000) ∧ Below w.heap.size w w' := by
  have I := Lib.hid fun W => rin_ok d p W d0 (by omega) p0 p1
  have L := Lib.hid fun W => ratio_dn3 d (1000000000 - p) 1000000000 W d0 d1 (by omega) (by omega) (by omega) (by omega)
  have U := Lib.hid fun W => ratio_up3 d (1000000000 + p) 1000000000 W d0 d1 (by omega) (by omega) (by omega) (by omega)
  have w1 : IntKind.i64.wrap (1000000000 - p) = 1000000000 - p := IntWalk.i64_in _ (by omega)
  have w2 : IntKind.i64.wrap (1000000000 + p) = 1000000000 + p := IntWalk.i64_in _ (by omega)
  have m0 : 0 ≤ d * (1000000000 - p) := Int.mul_nonneg d0 (by omega)
  have m1 : d * (1000000000 - p) ≤ d * (1000000000 + p) := Int.mul_le_mul_of_nonneg_left (by omega) d0
  have m2 : d * (1000000000 + p) ≤ 3000000 * 1001000000 := Int.mul_le_mul d1 (by omega) (by omega) (by omega)
  have hlo : 0 ≤ d * (1000000000 - p) / 1000000000 ∧ d * (1000000000 - p) / 1000000000 ≤ cdiv (d * (1000000000 + p)) 1000000000 ∧ cdiv (d * (1000000000 + p)) 1000000000 ≤ 4000000 := by
    unfold cdiv
    omega
  generalize d * (1000000000 - p) / 1000000000 = lo at *
  generalize cdiv (d * (1000000000 + p)) 1000000000 = hi at *
  clear m0 m1 m2
  obtain ⟨k0, k1, k2⟩ := hlo
  go_enter Tryz.func68, Tryz.ntmps68
  go_wp2_with fail
  refine (I.out _).mono ?_
  rintro e w' ⟨rfl, rfl⟩
  go_wp2_with fail
  refine (L.out _).mono ?_
  rintro e w' ⟨rfl, rfl⟩
  go_wp2_with fail
  refine (U.out _).mono ?_
  rintro e w' ⟨rfl, rfl⟩
  go_wp2
  exact bodyPost_ret (v := .tuple #[.agg #[.int .i64 lo, .int .i64 hi], .int .i64 0]) (by simp [results, Tryz.results68, go_sem]) rfl ⟨⟨lo, hi, rfl, k0, k1, k2⟩, by repeat (first | exact Below.refl _ _ | refine below_alloc ?_ _ | refine below_set ?_ (by simp) _)⟩

set_option maxHeartbeats 1000000 in
theorem local_ok (d p v : Int) (w : World) (d0 : 0 ≤ d) (d1 : d ≤ 3000000) (p0 : 0 ≤ p) (p1 : p ≤ 1000000) :
    Calls Tryz.prog 41 #[.int .i64 d, .int .i64 p, .int .i64 v] w fun e w' => (∃ r : Int, e = .returned (.int .i64 r) ∧ 0 ≤ r ∧ r ≤ 4000000) ∧ Below w.heap.size w w' := by
  have A := Lib.hid fun W => rAdvance_ok d p W d0 d1 p0 p1
  have F := Lib.hid fun (x : Int) (h0 : 0 ≤ x) (h1 : x ≤ 4000000) W => rFits_ok d x p W d0 (by omega) h0 (by omega) p0 p1
  have M := Lib.hid fun (n : Int) (h0 : 0 < n) (h1 : n ≤ 4611686018427387904) W => Within_ok v n W h0 h1
  go_enter Tryz.func41, Tryz.ntmps41
  go_wp2_with fail
  refine (A.out _).mono ?_
  rintro e w1 ⟨⟨lo, hi, rfl, l0, l1, l2⟩, hb1⟩
  have hB0 := Lib.hid hb1
  clear hb1 A
  go_wp2_with fail
  go_quiet (fail)
  go_wp2_with fail
  go_loopg [9] 4000001 (fun gg s9 wr => ∃ x : Int, s9 = .int .i64 x ∧ lo ≤ x ∧ x ≤ hi ∧ (hi - x).toNat ≤ gg ∧ Hid (Below w.heap.size w wr))
  case atStart => exact ⟨lo, rfl, by omega, by omega, by omega, Lib.hid (by repeat (with_reducible first | exact hB0.out | refine below_drewN ?_ _ | refine below_set ?_ (by have := hB0.out.size; omega) _ | refine below_alloc ?_ _))⟩
  case round =>
    obtain ⟨x, rfl, x0, x1, hg, hB1⟩ := hrel
    by_cases hx : x < hi
    · have Fx := Lib.hid (F.out x (by omega) (by omega))
      have e4 : IntKind.i64.wrap (x + 1) = x + 1 := IntWalk.i64_in _ (by omega)
      cases hf : fitsM d x p
      · rw [hf] at Fx
        go_wp2_with fail
        refine (Fx.out _).mono ?_
        rintro e w2 ⟨rfl, rfl⟩
        go_wp2
        go_roundg ((hi - (x + 1)).toNat)
        case rel => exact ⟨x + 1, rfl, by omega, by omega, Nat.le_refl _, hB1⟩
        case measure => omega
      · rw [hf] at Fx
        go_wp2_with fail
        refine (Fx.out _).mono ?_
        rintro e w2 ⟨rfl, rfl⟩
        go_wp2_with fail
        go_loopg [10] 4000001 (fun gg s10 wq => ∃ y : Int, s10 = .int .i64 y ∧ x ≤ y ∧ y ≤ hi ∧ (y - x).toNat ≤ gg ∧ Hid (Below w.heap.size w wq))
        case atStart => exact ⟨hi, rfl, by omega, by omega, by omega, hB1⟩
        case round =>
          obtain ⟨y, rfl, y0, y1, hg2, hB2⟩ := hrel
          by_cases hy : x < y
          · have Fy := Lib.hid (F.out y (by omega) (by omega))
            have t3 : decide (y > x) = true := by simp [hy]
            have e5 : IntKind.i64.wrap (y - 1) = y - 1 := IntWalk.i64_in _ (by omega)
            cases hf : fitsM d y p
            · rw [hf] at Fy
              go_wp2_with fail
              refine (Fy.out _).mono ?_
              rintro e w2 ⟨rfl, rfl⟩
              go_wp2
              go_roundg ((y - 1 - x).toNat)
              case rel => exact ⟨y - 1, rfl, by omega, by omega, Nat.le_refl _, hB2⟩
              case measure => omega
            · rw [hf] at Fy
              go_wp2_with fail
              refine (Fy.out _).mono ?_
              rintro e w2 ⟨rfl, rfl⟩
              have e1 : IntKind.i64.wrap (y - x) = y - x := IntWalk.i64_in _ (by omega)
              have e2 : IntKind.i64.wrap (y - x + 1) = y - x + 1 := IntWalk.i64_in _ (by omega)
              go_wp2_with fail
              refine (M.out (y - x + 1) (by omega) (by omega) _).mono ?_
              rintro e w2 ⟨⟨r, rfl, r0, r1⟩, rfl⟩
              have e3 : IntKind.i64.wrap (x + r) = x + r := IntWalk.i64_in _ (by omega)
              go_wp2
              go_ret
              exact ⟨⟨_, rfl, by omega, by omega⟩, hB2.out⟩
          · have t3 : decide (y > x) = false := by simp; omega
            have e1 : IntKind.i64.wrap (y - x) = y - x := IntWalk.i64_in _ (by omega)
            have e2 : IntKind.i64.wrap (y - x + 1) = y - x + 1 := IntWalk.i64_in _ (by omega)
            go_wp2_with fail
            refine (M.out (y - x + 1) (by omega) (by omega) _).mono ?_
            rintro e w2 ⟨⟨r, rfl, r0, r1⟩, rfl⟩
            have e3 : IntKind.i64.wrap (x + r) = x + r := IntWalk.i64_in _ (by omega)
            go_wp2
            go_ret
            exact ⟨⟨_, rfl, by omega, by omega⟩, hB2.out⟩
    · go_wp2_with fail
      go_loopg [10] 4000001 (fun gg s10 wq => ∃ y : Int, s10 = .int .i64 y ∧ x ≤ y ∧ y ≤ hi ∧ (y - x).toNat ≤ gg ∧ Hid (Below w.heap.size w wq))
      case atStart => exact ⟨hi, rfl, by omega, by omega, by omega, hB1⟩
      case round =>
        obtain ⟨y, rfl, y0, y1, hg2, hB2⟩ := hrel
        by_cases hy : x < y
        · have Fy := Lib.hid (F.out y (by omega) (by omega))
          have t3 : decide (y > x) = true := by simp [hy]
          have e5 : IntKind.i64.wrap (y - 1) = y - 1 := IntWalk.i64_in _ (by omega)
          cases hf : fitsM d y p
          · rw [hf] at Fy
            go_wp2_with fail
            refine (Fy.out _).mono ?_
            rintro e w2 ⟨rfl, rfl⟩
            go_wp2
            go_roundg ((y - 1 - x).toNat)
            case rel => exact ⟨y - 1, rfl, by omega, by omega, Nat.le_refl _, hB2⟩
            case measure => omega
          · rw [hf] at Fy
            go_wp2_with fail
            refine (Fy.out _).mono ?_
            rintro e w2 ⟨rfl, rfl⟩
            have e1 : IntKind.i64.wrap (y - x) = y - x := IntWalk.i64_in _ (by omega)
            have e2 : IntKind.i64.wrap (y - x + 1) = y - x + 1 := IntWalk.i64_in _ (by omega)
            go_wp2_with fail
            refine (M.out (y - x + 1) (by omega) (by omega) _).mono ?_
            rintro e w2 ⟨⟨r, rfl, r0, r1⟩, rfl⟩
            have e3 : IntKind.i64.wrap (x + r) = x + r := IntWalk.i64_in _ (by omega)
            go_wp2
            go_ret
            exact ⟨⟨_, rfl, by omega, by omega⟩, hB2.out⟩
        · have t3 : decide (y > x) = false := by simp; omega
          have e1 : IntKind.i64.wrap (y - x) = y - x := IntWalk.i64_in _ (by omega)
          have e2 : IntKind.i64.wrap (y - x + 1) = y - x + 1 := IntWalk.i64_in _ (by omega)
          go_wp2_with fail
          refine (M.out (y - x + 1) (by omega) (by omega) _).mono ?_
          rintro e w2 ⟨⟨r, rfl, r0, r1⟩, rfl⟩
          have e3 : IntKind.i64.wrap (x + r) = x + r := IntWalk.i64_in _ (by omega)
          go_wp2
          go_ret
          exact ⟨⟨_, rfl, by omega, by omega⟩, hB2.out⟩
end Go.Proofs.YtnafhblioabkgaaGreat
