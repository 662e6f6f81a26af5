/- The small functions of layers 10, 11 and 15: what each of them answers, for every number. -/
import Derived.Test.YtnafhblioabkgaaGreatProg
import Derived.Test.YtnafhblioabkgaaGreatPlain
import Derived.WalkKit
import Derived.KernelRfl
import Derived.Below
import Derived.Deep.Draws
import Derived.Outline
import Derived.Lib.Hide
namespace Go.Proofs.YtnafhblioabkgaaGreat
open Go.RowKit



theorem ret_bool {a b : Bool} (h : a = b) : Ending.returned (.bool a) = .returned (.bool b) := by rw [h]
theorem ret_int {k : IntKind} {a b : Int} (h : a = b) : Ending.returned (.int k a) = .returned (.int k b) := by rw [h]
theorem bcell {W w1 : World} (hb : Below W.heap.size W w1) : (∀ b o, b < W.heap.size → w1.cell? ⟨b, o, none⟩ = W.cell? ⟨b, o, none⟩) ∧ (∀ b o, b < W.heap.size → w1.frozen? ⟨b, o, none⟩ = W.frozen? ⟨b, o, none⟩) :=
  ⟨fun b o h => hb.cell (p := ⟨b, o, none⟩) h, fun b o h => hb.frozen (p := ⟨b, o, none⟩) h⟩

theorem ticks_Valid (t : Int) (w : World) : Calls Tryz.prog 58 #[.int .i64 t] w fun e w' => e = .returned (.bool (okT t)) ∧ w = w' := by
  go_enter Tryz.func58, Tryz.ntmps58
  go_wp2
  all_goals (go_ret; exact ⟨ret_bool (by simp [okT]; omega), rfl⟩)

theorem interval_Valid (lo hi : Int) (w : World) : Calls Tryz.prog 80 #[.agg #[.int .i64 lo, .int .i64 hi]] w fun e w' => e = .returned (.bool (okS lo hi)) ∧ Below w.heap.size w w' := by
  unfold okS
  cases h1 : okT lo <;> cases h2 : okT hi
  all_goals
    go_enter Tryz.func80, Tryz.ntmps80
    go_wp2_with (go_at_call 58; refine (ticks_Valid _ _).mono ?_; rintro e w' ⟨rfl, rfl⟩)
    go_ret
    exact ⟨ret_bool (by simp), (Below.refl _ _).alloc (Nat.le_refl _) _⟩
end Go.Proofs.YtnafhblioabkgaaGreat
