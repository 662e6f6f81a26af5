/- Words on memory: what stands below a block's number, and slices that read as lists. -/
import Derived.Test.YtnafhblioabkgaaGreatLeaf
import Derived.Deep.AppendLies
import Derived.Laws.OwnMore
import Derived.Laws.Rows
namespace Go.Proofs.YtnafhblioabkgaaGreat
open Go.RowKit

theorem below_alloc {w W : World} (h : Below w.heap.size w W) (o : Obj) : Below w.heap.size w (W.alloc o) := h.alloc h.size o
theorem below_drewN {w W : World} (h : Below w.heap.size w W) (n : Nat) : Below w.heap.size w (W.drewN n) := ⟨h.os, h.tape, h.output, h.size, h.block⟩
theorem below_drew {w W : World} (h : Below w.heap.size w W) : Below w.heap.size w W.drew := ⟨h.os, h.tape, h.output, h.size, h.block⟩
theorem below_set {w W : World} (h : Below w.heap.size w W) {b o : Nat} {r : Option Nat} (hp : w.heap.size ≤ b) (u : Value) : Below w.heap.size w (W.setCell ⟨b, o, r⟩ u) := h.setCell hp u
theorem below_then {w W W2 : World} (h : Below w.heap.size w W) (k : Below W.heap.size W W2) : Below w.heap.size w W2 := h.trans (k.mono h.size)
theorem cell_keep {w w1 : World} (h : Below w.heap.size w w1) {a : Addr} {v : Value} (hc : w.cell? a = some v) : w1.cell? a = some v := (h.cell (World.block_lt_of_cell? w a hc)).trans hc
theorem held2 {w w' : World} {p q : Addr} {x y : Value} (h : w.cell? p = some x ∧ w.cell? q = some y) (hb : Below w.heap.size w w') : w'.cell? p = some x ∧ w'.cell? q = some y := ⟨cell_keep hb h.1, cell_keep hb h.2⟩
theorem held3 {w w' : World} {p q r : Addr} {x y z : Value} (h : w.cell? p = some x ∧ w.cell? q = some y ∧ w.cell? r = some z) (hb : Below w.heap.size w w') : w'.cell? p = some x ∧ w'.cell? q = some y ∧ w'.cell? r = some z := ⟨cell_keep hb h.1, cell_keep hb h.2.1, cell_keep hb h.2.2⟩
theorem drewN_below (w : World) (n : Nat) : Below w.heap.size w (w.drewN n) := below_drewN (Below.refl _ _) n

theorem results_cell_tmp_tmp {fn : Func} {p u v : Tmp} {ty : TypeId} (h : fn.results = #[.cell p ty, .tmp u, .tmp v]) (tmps : Array Value) (P : Program) (w : World) :
    (results fn tmps).run P w = ((asAddr (tmps.getD p undef)).run P w).andThen fun a w₁ => ((loadVar ty a).run P w₁).andThen fun x w₂ => .ok (.tuple #[x, tmps.getD u undef, tmps.getD v undef]) w₂ := by
  simp only [results, h]
  simp [Sem.run_bind, Result.andThen]

/-- Block g of w is just the cells cs, of type t, none of them frozen. -/
def Blk (w : World) (g : Nat) (t : TypeId) (cs : Array Value) : Prop := w.heap[g]? = some (.cells cs t (0, 0))
section
variable {w w' : World} {g : Nat} {t : TypeId} {cs : Array Value}
theorem Blk.lt (h : Blk w g t cs) : g < w.heap.size := by
  rcases Nat.lt_or_ge g w.heap.size with hlt | hge
  · exact hlt
  · unfold Blk at h; rw [Array.getElem?_eq_none hge] at h; cases h
theorem Blk.cell (h : Blk w g t cs) (i : Nat) : w.cell? ⟨g, i, none⟩ = cs[i]? := cell_of_row w g i cs t (0, 0) h
theorem Blk.frozen (h : Blk w g t cs) (i : Nat) : w.frozen? ⟨g, i, none⟩ = false := by
  unfold Blk at h
  simp [World.frozen?, h]
theorem Blk.new (w : World) (t : TypeId) (cs : Array Value) : Blk (w.alloc (.cells cs t)) w.heap.size t cs := heap_alloc_new w _
theorem Blk.new1 (w : World) (o : Obj) (t : TypeId) (cs : Array Value) : Blk ((w.alloc o).alloc (.cells cs t)) (w.heap.size + 1) t cs := by simpa using Blk.new (w.alloc o) t cs
theorem Blk.new2 (w : World) (o o' : Obj) (t : TypeId) (cs : Array Value) : Blk (((w.alloc o).alloc o').alloc (.cells cs t)) (w.heap.size + 2) t cs := by simpa using Blk.new ((w.alloc o).alloc o') t cs
theorem Blk.new3 (w : World) (o o' o'' : Obj) (t : TypeId) (cs : Array Value) : Blk ((((w.alloc o).alloc o').alloc o'').alloc (.cells cs t)) (w.heap.size + 3) t cs := by simpa using Blk.new (((w.alloc o).alloc o').alloc o'') t cs
theorem Blk.drew (h : Blk w g t cs) : Blk w.drew g t cs := h
theorem Blk.drewN (h : Blk w g t cs) (n : Nat) : Blk (w.drewN n) g t cs := h
theorem Blk.alloc (h : Blk w g t cs) (o : Obj) : Blk (w.alloc o) g t cs := (Below.heap_alloc w o g h.lt).trans h
theorem Blk.set (h : Blk w g t cs) (i : Nat) (u : Value) : Blk (w.setCell ⟨g, i, none⟩ u) g t (cs.setIfInBounds i u) := by
  unfold Blk at h ⊢
  simp [World.setCell, Array.getElem?_modify, h]
theorem Blk.far (h : Blk w g t cs) {p : Addr} (hp : g ≠ p.block) (u : Value) : Blk (w.setCell p u) g t cs := (Below.heap_setCell w p u g hp).trans h
theorem Blk.keep (h : Blk w g t cs) (hb : Below w.heap.size w w') : Blk w' g t cs := (hb.block g h.lt).trans h
theorem blk2 {a b : Value} (h : Blk w g t #[a, b]) : w.cell? ⟨g, 0, none⟩ = some a ∧ w.cell? ⟨g, 1, none⟩ = some b ∧ w.frozen? ⟨g, 0, none⟩ = false ∧ w.frozen? ⟨g, 1, none⟩ = false :=
  ⟨h.cell 0, h.cell 1, h.frozen 0, h.frozen 1⟩
theorem blk5 {a b c d e : Value} (h : Blk w g t #[a, b, c, d, e]) : w.cell? ⟨g, 0, none⟩ = some a ∧ w.cell? ⟨g, 1, none⟩ = some b ∧ w.cell? ⟨g, 2, none⟩ = some c ∧ w.cell? ⟨g, 3, none⟩ = some d ∧ w.cell? ⟨g, 4, none⟩ = some e :=
  ⟨h.cell 0, h.cell 1, h.cell 2, h.cell 3, h.cell 4⟩
theorem blk6 {a b c d e f : Value} (h : Blk w g t #[a, b, c, d, e, f]) : w.cell? ⟨g, 0, none⟩ = some a ∧ w.cell? ⟨g, 1, none⟩ = some b ∧ w.cell? ⟨g, 2, none⟩ = some c ∧ w.cell? ⟨g, 3, none⟩ = some d ∧ w.cell? ⟨g, 4, none⟩ = some e ∧ w.cell? ⟨g, 5, none⟩ = some f :=
  ⟨h.cell 0, h.cell 1, h.cell 2, h.cell 3, h.cell 4, h.cell 5⟩
theorem frz6 {a b c d e f : Value} (h : Blk w g t #[a, b, c, d, e, f]) : w.frozen? ⟨g, 0, none⟩ = false ∧ w.frozen? ⟨g, 1, none⟩ = false ∧ w.frozen? ⟨g, 2, none⟩ = false ∧ w.frozen? ⟨g, 3, none⟩ = false ∧ w.frozen? ⟨g, 4, none⟩ = false ∧ w.frozen? ⟨g, 5, none⟩ = false :=
  ⟨h.frozen 0, h.frozen 1, h.frozen 2, h.frozen 3, h.frozen 4, h.frozen 5⟩
end

/-- The slice '.slice A n _' reads in w as the list zs, each element in k cells; it lies below block B. -/
structure RdL {α : Type} (enc : α → List Value) (k : Nat) (w : World) (B : Nat) (A : Option Addr) (n : Nat) (zs : List α) : Prop where
  len : zs.length = n
  big : n ≤ 4611686018427387904
  at' : 0 < n → ∃ b off, A = some ⟨b, off, none⟩ ∧ b < B ∧ ∀ i x, zs[i]? = some x → ∀ j u, (enc x)[j]? = some u → w.cell? ⟨b, off + i * k + j, none⟩ = some u

section
variable {α : Type} {enc : α → List Value} {k : Nat} {w w' : World} {B B' : Nat} {A : Option Addr} {n : Nat} {zs : List α}
theorem RdL.nil (enc : α → List Value) (k : Nat) (w : World) (B : Nat) (A : Option Addr) : RdL enc k w B A 0 [] := ⟨rfl, by omega, fun h => absurd h (by omega)⟩
theorem RdL.keep (h : RdL enc k w B A n zs) (hk : ∀ b o, b < B → w'.cell? ⟨b, o, none⟩ = w.cell? ⟨b, o, none⟩) : RdL enc k w' B A n zs :=
  ⟨h.len, h.big, fun hn => by
    obtain ⟨b, off, e, hb, hc⟩ := h.at' hn
    exact ⟨b, off, e, hb, fun i x hx j u hu => (hk _ _ hb).trans (hc i x hx j u hu)⟩⟩
theorem RdL.more (h : RdL enc k w B A n zs) (hB : B ≤ B') : RdL enc k w B' A n zs :=
  ⟨h.len, h.big, fun hn => by
    obtain ⟨b, off, e, hb, hc⟩ := h.at' hn
    exact ⟨b, off, e, by omega, hc⟩⟩
theorem RdL.below (h : RdL enc k w B A n zs) (hb : Below w.heap.size w w') (hB : B ≤ w.heap.size) : RdL enc k w' B A n zs := h.keep fun b o hlt => hb.cell (p := ⟨b, o, none⟩) (Nat.lt_of_lt_of_le hlt hB)
theorem RdL.alloc (h : RdL enc k w B A n zs) (hB : B ≤ w.heap.size) (o : Obj) : RdL enc k (w.alloc o) B A n zs := h.below ((Below.refl _ _).alloc (Nat.le_refl _) o) hB
theorem RdL.drewN (h : RdL enc k w B A n zs) (m : Nat) : RdL enc k (w.drewN m) B A n zs := ⟨h.len, h.big, h.at'⟩
theorem RdL.drew (h : RdL enc k w B A n zs) : RdL enc k w.drew B A n zs := ⟨h.len, h.big, h.at'⟩
theorem RdL.set (h : RdL enc k w B A n zs) {b o : Nat} (hB : B ≤ b) (u : Value) : RdL enc k (w.setCell ⟨b, o, none⟩ u) B A n zs :=
  h.keep fun c q hc => World.cell?_setCell_other w ⟨b, o, none⟩ ⟨c, q, none⟩ u (fun e => by injection e; omega)
/-- What the element's cells hold. -/
theorem RdL.get (h : RdL enc k w B A n zs) {i : Nat} (hi : i < n) : ∃ b off x, A = some ⟨b, off, none⟩ ∧ b < B ∧ zs[i]? = some x ∧ ∀ j u, (enc x)[j]? = some u → w.cell? ⟨b, off + i * k + j, none⟩ = some u := by
  obtain ⟨b, off, e, hb, hc⟩ := h.at' (by omega)
  have hl : i < zs.length := by have := h.len; omega
  exact ⟨b, off, zs[i], e, hb, List.getElem?_eq_getElem hl, hc i _ (List.getElem?_eq_getElem hl)⟩
end

abbrev encI (x : Int) : List Value := [.int .i64 x]
abbrev encSp (x : Int × Int) : List Value := [.int .i64 x.1, .int .i64 x.2]
abbrev encKn (x : Kn) : List Value := [.int .i64 x.a, .int .i64 x.lo, .int .i64 x.hi, .int .i64 x.ppb, .int .i64 x.learnt, .int .i64 x.refused]
abbrev encStp (x : Stp) : List Value := [.int .i64 x.src, .int .i64 x.tru, .int .i64 x.loc, .int .i64 x.out, .int .i64 x.outL, .int .i64 x.hold, .int .i64 x.holdL, .int .i64 x.back, .int .i64 x.backL, .int .i64 x.w2, .int .i64 x.w3]
abbrev encCk (x : Ck) : List Value := [.int .i64 x.aim, .int .i64 x.rate, .bool x.set, .bool x.held, .int .i64 x.a, .int .i64 x.shown]
abbrev encRp (x : Rp) : List Value := [.int .i64 x.loc, .int .i64 x.tru, .bool x.some, .int .i64 x.lo, .int .i64 x.hi, .int .i64 x.ck.aim, .int .i64 x.ck.rate, .bool x.ck.set, .bool x.ck.held, .int .i64 x.ck.a, .int .i64 x.ck.shown]
theorem RdL.getI {w : World} {B n : Nat} {A : Option Addr} {zs : List (Int)} (h : RdL encI 1 w B A n zs) {i : Nat} (hi : i < n) : ∃ b off x, A = some ⟨b, off, none⟩ ∧ b < B ∧ zs[i]? = some x ∧ zs.drop i = x :: zs.drop (i + 1) ∧ w.cell? ⟨b, off + i, none⟩ = some (.int .i64 x) := by
  obtain ⟨b, off, x, e, hb, hz, hc⟩ := h.get hi
  refine ⟨b, off, x, e, hb, hz, ?_, ?_⟩
  · have hl := h.len
    rw [List.drop_eq_getElem_cons (by omega)]
    congr 1
    rw [List.getElem?_eq_getElem (by omega)] at hz
    exact Option.some.inj hz
  · have := hc 0 _ rfl; simpa using this
theorem RdL.getSp {w : World} {B n : Nat} {A : Option Addr} {zs : List (Int × Int)} (h : RdL encSp 2 w B A n zs) {i : Nat} (hi : i < n) : ∃ b off x, A = some ⟨b, off, none⟩ ∧ b < B ∧ zs[i]? = some x ∧ zs.drop i = x :: zs.drop (i + 1) ∧ w.cell? ⟨b, off + i * 2, none⟩ = some (.int .i64 x.1) ∧ w.cell? ⟨b, off + i * 2 + 1, none⟩ = some (.int .i64 x.2) := by
  obtain ⟨b, off, x, e, hb, hz, hc⟩ := h.get hi
  refine ⟨b, off, x, e, hb, hz, ?_, ?_, ?_⟩
  · have hl := h.len
    rw [List.drop_eq_getElem_cons (by omega)]
    congr 1
    rw [List.getElem?_eq_getElem (by omega)] at hz
    exact Option.some.inj hz
  · have := hc 0 _ rfl; simpa using this
  · have := hc 1 _ rfl; simpa using this
theorem RdL.getKn {w : World} {B n : Nat} {A : Option Addr} {zs : List (Kn)} (h : RdL encKn 6 w B A n zs) {i : Nat} (hi : i < n) : ∃ b off x, A = some ⟨b, off, none⟩ ∧ b < B ∧ zs[i]? = some x ∧ zs.drop i = x :: zs.drop (i + 1) ∧ w.cell? ⟨b, off + i * 6, none⟩ = some (.int .i64 x.a) ∧ w.cell? ⟨b, off + i * 6 + 1, none⟩ = some (.int .i64 x.lo) ∧ w.cell? ⟨b, off + i * 6 + 2, none⟩ = some (.int .i64 x.hi) ∧ w.cell? ⟨b, off + i * 6 + 3, none⟩ = some (.int .i64 x.ppb) ∧ w.cell? ⟨b, off + i * 6 + 4, none⟩ = some (.int .i64 x.learnt) ∧ w.cell? ⟨b, off + i * 6 + 5, none⟩ = some (.int .i64 x.refused) := by
  obtain ⟨b, off, x, e, hb, hz, hc⟩ := h.get hi
  refine ⟨b, off, x, e, hb, hz, ?_, ?_, ?_, ?_, ?_, ?_, ?_⟩
  · have hl := h.len
    rw [List.drop_eq_getElem_cons (by omega)]
    congr 1
    rw [List.getElem?_eq_getElem (by omega)] at hz
    exact Option.some.inj hz
  · have := hc 0 _ rfl; simpa using this
  · have := hc 1 _ rfl; simpa using this
  · have := hc 2 _ rfl; simpa using this
  · have := hc 3 _ rfl; simpa using this
  · have := hc 4 _ rfl; simpa using this
  · have := hc 5 _ rfl; simpa using this
theorem RdL.getStp {w : World} {B n : Nat} {A : Option Addr} {zs : List (Stp)} (h : RdL encStp 11 w B A n zs) {i : Nat} (hi : i < n) : ∃ b off x, A = some ⟨b, off, none⟩ ∧ b < B ∧ zs[i]? = some x ∧ zs.drop i = x :: zs.drop (i + 1) ∧ w.cell? ⟨b, off + i * 11, none⟩ = some (.int .i64 x.src) ∧ w.cell? ⟨b, off + i * 11 + 1, none⟩ = some (.int .i64 x.tru) ∧ w.cell? ⟨b, off + i * 11 + 2, none⟩ = some (.int .i64 x.loc) ∧ w.cell? ⟨b, off + i * 11 + 3, none⟩ = some (.int .i64 x.out) ∧ w.cell? ⟨b, off + i * 11 + 4, none⟩ = some (.int .i64 x.outL) ∧ w.cell? ⟨b, off + i * 11 + 5, none⟩ = some (.int .i64 x.hold) ∧ w.cell? ⟨b, off + i * 11 + 6, none⟩ = some (.int .i64 x.holdL) ∧ w.cell? ⟨b, off + i * 11 + 7, none⟩ = some (.int .i64 x.back) ∧ w.cell? ⟨b, off + i * 11 + 8, none⟩ = some (.int .i64 x.backL) ∧ w.cell? ⟨b, off + i * 11 + 9, none⟩ = some (.int .i64 x.w2) ∧ w.cell? ⟨b, off + i * 11 + 10, none⟩ = some (.int .i64 x.w3) := by
  obtain ⟨b, off, x, e, hb, hz, hc⟩ := h.get hi
  refine ⟨b, off, x, e, hb, hz, ?_, ?_, ?_, ?_, ?_, ?_, ?_, ?_, ?_, ?_, ?_, ?_⟩
  · have hl := h.len
    rw [List.drop_eq_getElem_cons (by omega)]
    congr 1
    rw [List.getElem?_eq_getElem (by omega)] at hz
    exact Option.some.inj hz
  · have := hc 0 _ rfl; simpa using this
  · have := hc 1 _ rfl; simpa using this
  · have := hc 2 _ rfl; simpa using this
  · have := hc 3 _ rfl; simpa using this
  · have := hc 4 _ rfl; simpa using this
  · have := hc 5 _ rfl; simpa using this
  · have := hc 6 _ rfl; simpa using this
  · have := hc 7 _ rfl; simpa using this
  · have := hc 8 _ rfl; simpa using this
  · have := hc 9 _ rfl; simpa using this
  · have := hc 10 _ rfl; simpa using this
theorem RdL.getRp {w : World} {B n : Nat} {A : Option Addr} {zs : List (Rp)} (h : RdL encRp 11 w B A n zs) {i : Nat} (hi : i < n) : ∃ b off x, A = some ⟨b, off, none⟩ ∧ b < B ∧ zs[i]? = some x ∧ zs.drop i = x :: zs.drop (i + 1) ∧ w.cell? ⟨b, off + i * 11, none⟩ = some (.int .i64 x.loc) ∧ w.cell? ⟨b, off + i * 11 + 1, none⟩ = some (.int .i64 x.tru) ∧ w.cell? ⟨b, off + i * 11 + 2, none⟩ = some (.bool x.some) ∧ w.cell? ⟨b, off + i * 11 + 3, none⟩ = some (.int .i64 x.lo) ∧ w.cell? ⟨b, off + i * 11 + 4, none⟩ = some (.int .i64 x.hi) ∧ w.cell? ⟨b, off + i * 11 + 5, none⟩ = some (.int .i64 x.ck.aim) ∧ w.cell? ⟨b, off + i * 11 + 6, none⟩ = some (.int .i64 x.ck.rate) ∧ w.cell? ⟨b, off + i * 11 + 7, none⟩ = some (.bool x.ck.set) ∧ w.cell? ⟨b, off + i * 11 + 8, none⟩ = some (.bool x.ck.held) ∧ w.cell? ⟨b, off + i * 11 + 9, none⟩ = some (.int .i64 x.ck.a) ∧ w.cell? ⟨b, off + i * 11 + 10, none⟩ = some (.int .i64 x.ck.shown) := by
  obtain ⟨b, off, x, e, hb, hz, hc⟩ := h.get hi
  refine ⟨b, off, x, e, hb, hz, ?_, ?_, ?_, ?_, ?_, ?_, ?_, ?_, ?_, ?_, ?_, ?_⟩
  · have hl := h.len
    rw [List.drop_eq_getElem_cons (by omega)]
    congr 1
    rw [List.getElem?_eq_getElem (by omega)] at hz
    exact Option.some.inj hz
  · have := hc 0 _ rfl; simpa using this
  · have := hc 1 _ rfl; simpa using this
  · have := hc 2 _ rfl; simpa using this
  · have := hc 3 _ rfl; simpa using this
  · have := hc 4 _ rfl; simpa using this
  · have := hc 5 _ rfl; simpa using this
  · have := hc 6 _ rfl; simpa using this
  · have := hc 7 _ rfl; simpa using this
  · have := hc 8 _ rfl; simpa using this
  · have := hc 9 _ rfl; simpa using this
  · have := hc 10 _ rfl; simpa using this
end Go.Proofs.YtnafhblioabkgaaGreat
