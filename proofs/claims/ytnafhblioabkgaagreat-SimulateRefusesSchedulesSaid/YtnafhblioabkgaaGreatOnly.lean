/- Words on memory: all blocks but two are as they were. -/
import Derived.Test.YtnafhblioabkgaaGreatPure
import Derived.Test.YtnafhblioabkgaaGreatLies
namespace Go.Proofs.YtnafhblioabkgaaGreat
open Go.RowKit

theorem results_cell {fn : Func} {p : Tmp} {ty : TypeId} (h : fn.results = #[.cell p ty]) (tmps : Array Value) (P : Program) (w : World) :
    (results fn tmps).run P w = ((asAddr (tmps.getD p undef)).run P w).andThen fun a w₁ => (loadVar ty a).run P w₁ := by
  simp only [results, h]
  simp [Sem.run_bind, Result.andThen]
/-- All blocks but two are as they were. -/
structure Only (a b : Nat) (w w' : World) : Prop where
  os : w'.os = w.os
  tape : w'.tape = w.tape
  output : w'.output = w.output
  size : w.heap.size ≤ w'.heap.size
  block : ∀ k, k < w.heap.size → k ≠ a → k ≠ b → w'.heap[k]? = w.heap[k]?
section
variable {a b : Nat} {w w1 w' : World}
theorem Only.refl (a b : Nat) (w : World) : Only a b w w := ⟨rfl, rfl, rfl, Nat.le_refl _, fun _ _ _ _ => rfl⟩
theorem Only.trans (h : Only a b w w1) (k : Only a b w1 w') : Only a b w w' := ⟨k.os.trans h.os, k.tape.trans h.tape, k.output.trans h.output, Nat.le_trans h.size k.size, fun j hj ha hb => (k.block j (Nat.lt_of_lt_of_le hj h.size) ha hb).trans (h.block j hj ha hb)⟩
theorem Only.of (h : Below w.heap.size w w') : Only a b w w' := ⟨h.os, h.tape, h.output, h.size, fun k hk _ _ => h.block k hk⟩
theorem Only.then (h : Only a b w w1) (k : Below w1.heap.size w1 w') : Only a b w w' := h.trans (.of k)
theorem Only.alloc (h : Only a b w w1) (o : Obj) : Only a b w (w1.alloc o) := h.then (below_alloc (Below.refl _ _) o)
theorem Only.drew (h : Only a b w w1) : Only a b w w1.drew := h.then (below_drew (Below.refl _ _))
theorem Only.drewN (h : Only a b w w1) (n : Nat) : Only a b w (w1.drewN n) := h.then (below_drewN (Below.refl _ _) n)
theorem Only.set (h : Only a b w w1) {g o : Nat} {r : Option Nat} (hg : g = a ∨ g = b) (u : Value) : Only a b w (w1.setCell ⟨g, o, r⟩ u) :=
  ⟨h.os, h.tape, h.output, by have := h.size; simpa [World.setCell] using this, fun k hk ha hb => (Below.heap_setCell w1 ⟨g, o, r⟩ u k (by show k ≠ g; omega)).trans (h.block k hk ha hb)⟩
theorem Only.setNew (h : Only a b w w1) {g o : Nat} {r : Option Nat} (hg : w.heap.size ≤ g) (u : Value) : Only a b w (w1.setCell ⟨g, o, r⟩ u) :=
  ⟨h.os, h.tape, h.output, by have := h.size; simpa [World.setCell] using this, fun k hk ha hb => (Below.heap_setCell w1 ⟨g, o, r⟩ u k (by show k ≠ g; omega)).trans (h.block k hk ha hb)⟩
theorem Only.swap (h : Only a b w w') : Only b a w w' := ⟨h.os, h.tape, h.output, h.size, fun k hk ha hb => h.block k hk hb ha⟩
theorem Only.one (h : Only a a w w') : Only a b w w' := ⟨h.os, h.tape, h.output, h.size, fun k hk ha _ => h.block k hk ha ha⟩
theorem Only.below {w0 : World} (h0 : Below w0.heap.size w0 w) (h : Only a b w w') (ha : w0.heap.size ≤ a) (hb : w0.heap.size ≤ b) : Below w0.heap.size w0 w' :=
  ⟨h.os.trans h0.os, h.tape.trans h0.tape, h.output.trans h0.output, Nat.le_trans h0.size h.size, fun k hk => (h.block k (Nat.lt_of_lt_of_le hk h0.size) (by omega) (by omega)).trans (h0.block k hk)⟩
theorem Blk.keepO {g : Nat} {t : TypeId} {cs : Array Value} (hk : Blk w g t cs) (h : Only a b w w') (ha : g ≠ a) (hb : g ≠ b) : Blk w' g t cs := (h.block g hk.lt ha hb).trans hk
theorem RdL.keepO {α : Type} {enc : α → List Value} {k n B : Nat} {A : Option Addr} {zs : List α} (hr : RdL enc k w B A n zs) (h : Only a b w w') (hB : B ≤ w.heap.size) (ha : B ≤ a) (hb : B ≤ b) : RdL enc k w' B A n zs :=
  hr.keep fun j o hj => by
    have := h.block j (by omega) (by omega) (by omega)
    simp only [World.cell?, this]
end

abbrev encKw : Option Kn → List Value
  | none => [.bool false, .int .i64 0, .int .i64 0, .int .i64 0, .int .i64 0, .int .i64 0, .int .i64 0]
  | some k => [.bool true, .int .i64 k.a, .int .i64 k.lo, .int .i64 k.hi, .int .i64 k.ppb, .int .i64 k.learnt, .int .i64 k.refused]

theorem Blk.mid {w : World} {b : Nat} {t : TypeId} {pre mid post : List Value} (h : Blk w b t (pre ++ (mid ++ post)).toArray) {o : Nat} (ho : pre.length = o) (j : Nat) (hj : j < mid.length) : w.cell? ⟨b, o + j, none⟩ = mid[j]? := by
  rw [h.cell]
  simp only [List.getElem?_toArray]
  rw [List.getElem?_append_right (by omega), ho, Nat.add_sub_cancel_left, List.getElem?_append_left hj]
theorem Blk.mid_set {w : World} {b : Nat} {t : TypeId} {pre mid post : List Value} (h : Blk w b t (pre ++ (mid ++ post)).toArray) {o : Nat} (ho : pre.length = o) (j : Nat) (hj : j < mid.length) (u : Value) : Blk (w.setCell ⟨b, o + j, none⟩ u) b t (pre ++ (mid.set j u ++ post)).toArray := by
  have := h.set (o + j) u
  rw [List.setIfInBounds_toArray, List.set_append_right _ _ (by omega), ho, Nat.add_sub_cancel_left, List.set_append_left _ _ hj] at this
  exact this
end Go.Proofs.YtnafhblioabkgaaGreat
