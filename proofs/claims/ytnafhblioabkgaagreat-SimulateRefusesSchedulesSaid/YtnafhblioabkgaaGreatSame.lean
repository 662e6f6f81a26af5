/- The reference's comparisons of two lists. -/
import Derived.Test.YtnafhblioabkgaaGreatRSimc
import Derived.Test.YtnafhblioabkgaaGreatOnly
import Derived.BigQuiet
import Derived.Deep.QuietTactic
namespace Go.Proofs.YtnafhblioabkgaaGreat
open Go.RowKit

theorem SameI_ok (A A' : Option Addr) (n c c' : Nat) (l : List Int) (w : World) (B : Nat) (hB : B ≤ w.heap.size) (h : RdL encI 1 w B A n l) (h' : RdL encI 1 w B A' n l) :
    Calls Tryz.prog 16 #[.slice A n c, .slice A' n c'] w fun e w' => e = .returned (.bool true) ∧ Below w.heap.size w w' := by
  have hbig := h.big
  have H := Lib.hid h
  have H' := Lib.hid h'
  clear h h'
  go_enter Tryz.func16, Tryz.ntmps16
  go_wp2
  go_loopg [5] n (fun gg s5 wr => ∃ k : Nat, k ≤ n ∧ n - k ≤ gg ∧ s5 = .int .i64 k ∧ Hid (Below w.heap.size w wr))
  case atStart => exact ⟨0, Nat.zero_le _, by omega, rfl, Lib.hid (Below.refl _ _)⟩
  case round =>
    obtain ⟨k, hk, hg, rfl, hb⟩ := hrel
    by_cases hlt : k < n
    · obtain ⟨b, off, x, rfl, hbB, hz, hd, c0⟩ := (H.out.below hb.out hB).getI hlt
      obtain ⟨b', off', y, rfl, hbB', hz', hd', c0'⟩ := (H'.out.below hb.out hB).getI hlt
      obtain rfl : x = y := by rw [hz] at hz'; exact Option.some.inj hz'
      have i1 : (0 : Int) ≤ (k : Int) := by omega
      have i2 : (k : Int) < (n : Int) := by omega
      clear hz hz' hd hd'
      go_wp2_with fail
      go_quiet (fail)
      go_wp2
      go_roundg (n - (k + 1))
      case rel => exact ⟨k + 1, by omega, Nat.le_refl _, by go_num, Lib.hid (below_drewN hb.out _)⟩
      case measure => omega
    · obtain rfl : k = n := by omega
      go_wp2
      go_ret
      exact ⟨rfl, hb.out⟩
theorem SameR_ok (A A' : Option Addr) (n c c' : Nat) (l : List Rp) (w : World) (B : Nat) (hB : B ≤ w.heap.size) (h : RdL encRp 11 w B A n l) (h' : RdL encRp 11 w B A' n l) :
    Calls Tryz.prog 17 #[.slice A n c, .slice A' n c'] w fun e w' => e = .returned (.bool true) ∧ Below w.heap.size w w' := by
  have hbig := h.big
  have H := Lib.hid h
  have H' := Lib.hid h'
  clear h h'
  go_enter Tryz.func17, Tryz.ntmps17
  go_wp2
  go_loopg [5] n (fun gg s5 wr => ∃ k : Nat, k ≤ n ∧ n - k ≤ gg ∧ s5 = .int .i64 k ∧ Hid (Below w.heap.size w wr))
  case atStart => exact ⟨0, Nat.zero_le _, by omega, rfl, Lib.hid (Below.refl _ _)⟩
  case round =>
    obtain ⟨k, hk, hg, rfl, hb⟩ := hrel
    by_cases hlt : k < n
    · obtain ⟨b, off, x, rfl, hbB, hz, hd, c0, c1, c2, c3, c4, c5, c6, c7, c8, c9, c10⟩ := (H.out.below hb.out hB).getRp hlt
      obtain ⟨b', off', y, rfl, hbB', hz', hd', d0, d1, d2, d3, d4, d5, d6, d7, d8, d9, d10⟩ := (H'.out.below hb.out hB).getRp hlt
      obtain rfl : x = y := by rw [hz] at hz'; exact Option.some.inj hz'
      have i1 : (0 : Int) ≤ (k : Int) := by omega
      have i2 : (k : Int) < (n : Int) := by omega
      clear hz hz' hd hd'
      go_wp2_with fail
      go_quiet (fail)
      go_wp2
      go_roundg (n - (k + 1))
      case rel => exact ⟨k + 1, by omega, Nat.le_refl _, by go_num, Lib.hid (below_drewN hb.out _)⟩
      case measure => omega
    · obtain rfl : k = n := by omega
      go_wp2
      go_ret
      exact ⟨rfl, hb.out⟩
end Go.Proofs.YtnafhblioabkgaaGreat
