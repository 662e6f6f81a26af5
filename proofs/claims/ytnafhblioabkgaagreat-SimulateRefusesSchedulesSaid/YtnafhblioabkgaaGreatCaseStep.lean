/- The statements' maker of schedules: a step. -/
import Derived.Test.YtnafhblioabkgaaGreatCase
import Derived.Test.YtnafhblioabkgaaGreatInv
import Derived.Test.YtnafhblioabkgaaGreatRun
import Derived.Test.YtnafhblioabkgaaGreatRPut
import Derived.Deep.RegionHeld3
namespace Go.Proofs.YtnafhblioabkgaaGreat
open Go.RowKit

theorem dur_ok (w : World) (g B : Nat) (At : Option Addr) (nt ct : Nat) (l : List Int) (h : Tp w g B At nt ct l) :
    Calls Tryz.prog 40 #[.pointer (some ⟨g, 0, none⟩)] w fun e w' => (∃ v : Int, e = .returned (.int .i64 v) ∧ 0 ≤ v ∧ v ≤ 3000000) ∧ Tp w' g B At nt ct l ∧ Only g g w w' := by
  have hT := Lib.hid h
  have hz := h.size
  obtain ⟨W, hW⟩ : ∃ W, W = w.alloc (.cells #[.int .i64 0, .int .i64 1, .int .i64 7, .int .i64 100, .int .i64 5000, .int .i64 3000000] 3) := ⟨_, rfl⟩
  have BW : Below w.heap.size w W := by rw [hW]; exact below_alloc (Below.refl _ _) _
  have LW := Lib.hid (show Blk W w.heap.size 3 #[.int .i64 0, .int .i64 1, .int .i64 7, .int .i64 100, .int .i64 5000, .int .i64 3000000] by rw [hW]; exact Blk.new _ _ _)
  have TW := Lib.hid (h.below BW)
  have OW := Lib.hid (show Only g g w W from .of BW)
  clear h BW
  go_enter Tryz.func40, Tryz.ntmps40
  go_wp2_with fail
  rw [← hW]
  clear hW
  refine (Int_ok 6 W g B At nt ct l TW.out (by omega) (by omega)).mono ?_
  rintro e w1 ⟨⟨v, rfl, v0, v1⟩, ht, ho⟩
  have K := Lib.hid (show Tp w1 g B At nt ct l ∧ Only g g w w1 from ⟨ht, OW.out.trans ho⟩)
  have L1 := Lib.hid (LW.out.keepO ho (by omega) (by omega))
  clear ht ho
  obtain rfl | rfl | rfl | rfl | rfl | rfl : v = 0 ∨ v = 1 ∨ v = 2 ∨ v = 3 ∨ v = 4 ∨ v = 5 := by omega
  · have q : w1.cell? ⟨w.heap.size, 0, none⟩ = some (.int .i64 0) := L1.out.cell 0
    go_wp2
    go_ret
    exact ⟨⟨_, rfl, by omega, by omega⟩, K.out⟩
  · have q : w1.cell? ⟨w.heap.size, 1, none⟩ = some (.int .i64 1) := L1.out.cell 1
    go_wp2
    go_ret
    exact ⟨⟨_, rfl, by omega, by omega⟩, K.out⟩
  · have q : w1.cell? ⟨w.heap.size, 2, none⟩ = some (.int .i64 7) := L1.out.cell 2
    go_wp2
    go_ret
    exact ⟨⟨_, rfl, by omega, by omega⟩, K.out⟩
  · have q : w1.cell? ⟨w.heap.size, 3, none⟩ = some (.int .i64 100) := L1.out.cell 3
    go_wp2
    go_ret
    exact ⟨⟨_, rfl, by omega, by omega⟩, K.out⟩
  · have q : w1.cell? ⟨w.heap.size, 4, none⟩ = some (.int .i64 5000) := L1.out.cell 4
    go_wp2
    go_ret
    exact ⟨⟨_, rfl, by omega, by omega⟩, K.out⟩
  · have q : w1.cell? ⟨w.heap.size, 5, none⟩ = some (.int .i64 3000000) := L1.out.cell 5
    go_wp2
    go_ret
    exact ⟨⟨_, rfl, by omega, by omega⟩, K.out⟩
/-- What the operations of the first statement yield. -/
def stF (g q n c z : Nat) (A : Option Addr) : Nat → Value → World → Prop
  | 0, x, _ => x = .pointer (some ⟨g, 0, none⟩)
  | 1, x, _ => x = .pointer (some ⟨q, 5, none⟩)
  | 2, x, _ => x = .slice A n c
  | 3, x, _ => x = .int .i64 (n : Int)
  | 4, x, _ => ∃ r : Int, x = .int .i64 r ∧ 0 ≤ r ∧ r < n
  | 5, x, _ => x = .pointer (some ⟨g, 0, none⟩)
  | 6, x, _ => ∃ d : Int, x = .int .i64 d ∧ 0 ≤ d ∧ d ≤ 3000000
  | 7, x, _ => x = .pointer (some ⟨g, 0, none⟩)
  | 8, x, _ => ∃ d : Int, x = .int .i64 d ∧ 0 ≤ d ∧ d ≤ 3000000
  | 9, x, W => ∃ b : Nat, x = .slice (some ⟨b, 0, none⟩) 3 3 ∧ b ≠ g ∧ Blk W b 3 #[.int .i64 0, .int .i64 2, .int .i64 50]
  | 10, x, _ => x = .pointer (some ⟨g, 0, none⟩)
  | 11, x, _ => ∃ r : Int, x = .int .i64 r ∧ 0 ≤ r ∧ r < 3
  | 12, x, W => ∃ b k : Nat, x = .pointer (some ⟨b, k, none⟩) ∧ k < 3 ∧ b ≠ g ∧ Blk W b 3 #[.int .i64 0, .int .i64 2, .int .i64 50]
  | 13, x, _ => ∃ d : Int, x = .int .i64 d ∧ 0 ≤ d ∧ d ≤ 50
  | 14, x, _ => x = .pointer (some ⟨g, 0, none⟩)
  | 15, x, _ => ∃ d : Int, x = .int .i64 d ∧ 0 ≤ d ∧ d ≤ 3000000
  | 16, x, _ => ∃ r d1 d2 d3 d4 : Int, x = .agg #[.int .i64 r, .int .i64 d1, .int .i64 0, .int .i64 d2, .int .i64 0, .int .i64 d3, .int .i64 0, .int .i64 d4, .int .i64 0, .int .i64 0, .int .i64 0] ∧ (0 ≤ r ∧ r < n) ∧ (0 ≤ d1 ∧ d1 ≤ 3000000) ∧ (0 ≤ d2 ∧ d2 ≤ 3000000) ∧ (0 ≤ d3 ∧ d3 ≤ 50) ∧ (0 ≤ d4 ∧ d4 ≤ 3000000)
  | 17, x, W => ∃ p : Nat, x = .pointer (some ⟨p, 0, none⟩) ∧ p ≠ g ∧ z ≤ p ∧ Blk W p 45 #[.int .i64 0, .int .i64 0, .int .i64 0, .int .i64 0, .int .i64 0, .int .i64 0, .int .i64 0, .int .i64 0, .int .i64 0, .int .i64 0, .int .i64 0]
  | _, _, _ => True
theorem stF_keep {g q n c z : Nat} {A : Option Addr} (i : Nat) (x : Value) (w w' : World) (h : stF g q n c z A i x w) (ho : Only g g w w') : stF g q n c z A i x w' := by
  unfold stF at *
  split at h
  all_goals first
    | exact h
    | (obtain ⟨b, h1, h2, h3⟩ := h; exact ⟨b, h1, h2, h3.keepO ho h2 h2⟩)
    | (obtain ⟨b, k, h1, h2, h3, h4⟩ := h; exact ⟨b, k, h1, h2, h3, h4.keepO ho h3 h3⟩)
    | (obtain ⟨b, h1, h2, h3, h4⟩ := h; exact ⟨b, h1, h2, h3, h4.keepO ho h2 h2⟩)
/-- The frame, the first statement's slots filled. -/
def stFr (s : Sch) (A A' : Option Addr) (c c' g q : Nat) (ly : Bool) (v : Nat → Value) : Act := ⟨#[.pointer (some ⟨g, 0, none⟩), vSch s A c A' c', .bool ly, undef, .pointer (some ⟨q, 0, none⟩), undef, .pointer (some ⟨q + 1, 0, none⟩), v 7, undef, v 9, v 10, v 11, v 12, v 13, v 14, v 15, v 16, v 17, v 18, v 19, v 20, v 21, v 22, v 23, v 24, v 25, undef, undef, undef, undef, undef, undef, undef, undef, undef, undef, undef, undef, undef, undef, undef, undef, undef, undef, undef, undef, undef, undef, undef, undef, undef, undef, undef, undef, undef, undef, undef, undef, undef, undef, undef, undef, undef, undef, undef, undef, undef, undef, undef, undef, undef, undef, undef, undef, undef, undef, undef, undef, undef, undef, undef, undef, undef, undef, undef, undef, undef, undef, undef, undef, undef, undef, undef, undef, undef, undef], []⟩
theorem fill11 {w : World} {p : Nat} {t : TypeId} {z0 z1 z2 z3 z4 z5 z6 z7 z8 z9 z10 a0 a1 a2 a3 a4 a5 a6 a7 a8 a9 a10 : Value} (h : Blk w p t #[z0, z1, z2, z3, z4, z5, z6, z7, z8, z9, z10]) : Blk ((((((((((((w.setCell ⟨p, 0, none⟩ a0).setCell ⟨p, 1, none⟩ a1).setCell ⟨p, 2, none⟩ a2).setCell ⟨p, 3, none⟩ a3).setCell ⟨p, 4, none⟩ a4).setCell ⟨p, 5, none⟩ a5).setCell ⟨p, 6, none⟩ a6).setCell ⟨p, 7, none⟩ a7).setCell ⟨p, 8, none⟩ a8).setCell ⟨p, 9, none⟩ a9).setCell ⟨p, 10, none⟩ a10)) p t #[a0, a1, a2, a3, a4, a5, a6, a7, a8, a9, a10] := by
  have h0 : Blk (w.setCell ⟨p, 0, none⟩ a0) p t #[a0, z1, z2, z3, z4, z5, z6, z7, z8, z9, z10] := h.set 0 a0
  have h1 : Blk ((w.setCell ⟨p, 0, none⟩ a0).setCell ⟨p, 1, none⟩ a1) p t #[a0, a1, z2, z3, z4, z5, z6, z7, z8, z9, z10] := h0.set 1 a1
  have h2 : Blk (((w.setCell ⟨p, 0, none⟩ a0).setCell ⟨p, 1, none⟩ a1).setCell ⟨p, 2, none⟩ a2) p t #[a0, a1, a2, z3, z4, z5, z6, z7, z8, z9, z10] := h1.set 2 a2
  have h3 : Blk ((((w.setCell ⟨p, 0, none⟩ a0).setCell ⟨p, 1, none⟩ a1).setCell ⟨p, 2, none⟩ a2).setCell ⟨p, 3, none⟩ a3) p t #[a0, a1, a2, a3, z4, z5, z6, z7, z8, z9, z10] := h2.set 3 a3
  have h4 : Blk (((((w.setCell ⟨p, 0, none⟩ a0).setCell ⟨p, 1, none⟩ a1).setCell ⟨p, 2, none⟩ a2).setCell ⟨p, 3, none⟩ a3).setCell ⟨p, 4, none⟩ a4) p t #[a0, a1, a2, a3, a4, z5, z6, z7, z8, z9, z10] := h3.set 4 a4
  have h5 : Blk ((((((w.setCell ⟨p, 0, none⟩ a0).setCell ⟨p, 1, none⟩ a1).setCell ⟨p, 2, none⟩ a2).setCell ⟨p, 3, none⟩ a3).setCell ⟨p, 4, none⟩ a4).setCell ⟨p, 5, none⟩ a5) p t #[a0, a1, a2, a3, a4, a5, z6, z7, z8, z9, z10] := h4.set 5 a5
  have h6 : Blk (((((((w.setCell ⟨p, 0, none⟩ a0).setCell ⟨p, 1, none⟩ a1).setCell ⟨p, 2, none⟩ a2).setCell ⟨p, 3, none⟩ a3).setCell ⟨p, 4, none⟩ a4).setCell ⟨p, 5, none⟩ a5).setCell ⟨p, 6, none⟩ a6) p t #[a0, a1, a2, a3, a4, a5, a6, z7, z8, z9, z10] := h5.set 6 a6
  have h7 : Blk ((((((((w.setCell ⟨p, 0, none⟩ a0).setCell ⟨p, 1, none⟩ a1).setCell ⟨p, 2, none⟩ a2).setCell ⟨p, 3, none⟩ a3).setCell ⟨p, 4, none⟩ a4).setCell ⟨p, 5, none⟩ a5).setCell ⟨p, 6, none⟩ a6).setCell ⟨p, 7, none⟩ a7) p t #[a0, a1, a2, a3, a4, a5, a6, a7, z8, z9, z10] := h6.set 7 a7
  have h8 : Blk (((((((((w.setCell ⟨p, 0, none⟩ a0).setCell ⟨p, 1, none⟩ a1).setCell ⟨p, 2, none⟩ a2).setCell ⟨p, 3, none⟩ a3).setCell ⟨p, 4, none⟩ a4).setCell ⟨p, 5, none⟩ a5).setCell ⟨p, 6, none⟩ a6).setCell ⟨p, 7, none⟩ a7).setCell ⟨p, 8, none⟩ a8) p t #[a0, a1, a2, a3, a4, a5, a6, a7, a8, z9, z10] := h7.set 8 a8
  have h9 : Blk ((((((((((w.setCell ⟨p, 0, none⟩ a0).setCell ⟨p, 1, none⟩ a1).setCell ⟨p, 2, none⟩ a2).setCell ⟨p, 3, none⟩ a3).setCell ⟨p, 4, none⟩ a4).setCell ⟨p, 5, none⟩ a5).setCell ⟨p, 6, none⟩ a6).setCell ⟨p, 7, none⟩ a7).setCell ⟨p, 8, none⟩ a8).setCell ⟨p, 9, none⟩ a9) p t #[a0, a1, a2, a3, a4, a5, a6, a7, a8, a9, z10] := h8.set 9 a9
  have h10 : Blk (((((((((((w.setCell ⟨p, 0, none⟩ a0).setCell ⟨p, 1, none⟩ a1).setCell ⟨p, 2, none⟩ a2).setCell ⟨p, 3, none⟩ a3).setCell ⟨p, 4, none⟩ a4).setCell ⟨p, 5, none⟩ a5).setCell ⟨p, 6, none⟩ a6).setCell ⟨p, 7, none⟩ a7).setCell ⟨p, 8, none⟩ a8).setCell ⟨p, 9, none⟩ a9).setCell ⟨p, 10, none⟩ a10) p t #[a0, a1, a2, a3, a4, a5, a6, a7, a8, a9, a10] := h9.set 10 a10
  exact h10
theorem Tp.setNew {w : World} {g B p o : Nat} {A : Option Addr} {n c : Nat} {l : List Int} {r : Option Nat} (h : Tp w g B A n c l) (hp : p ≠ g) (hB : B ≤ p) (u : Value) : Tp (w.setCell ⟨p, o, none⟩ u) g B A n c l := by
  obtain ⟨k, hk, hg⟩ := h.blk
  exact ⟨⟨k, hk, hg.far (p := ⟨_, _, _⟩) (Ne.symm hp) u⟩, h.rd.set hB u, h.lt⟩
theorem held5O {w w' : World} {g p q : Nat} {x0 x1 x2 x3 x4 : Value} (h : w.cell? ⟨p, 1, none⟩ = some x0 ∧ w.cell? ⟨p, 3, none⟩ = some x1 ∧ w.cell? ⟨p, 5, none⟩ = some x2 ∧ w.cell? ⟨p, 7, none⟩ = some x3 ∧ w.cell? ⟨q, 2, none⟩ = some x4) (ho : Only g g w w') (hp : p ≠ g) (hq : q ≠ g) : w'.cell? ⟨p, 1, none⟩ = some x0 ∧ w'.cell? ⟨p, 3, none⟩ = some x1 ∧ w'.cell? ⟨p, 5, none⟩ = some x2 ∧ w'.cell? ⟨p, 7, none⟩ = some x3 ∧ w'.cell? ⟨q, 2, none⟩ = some x4 := by
  have hk : ∀ (b o : Nat) (x : Value), b ≠ g → w.cell? ⟨b, o, none⟩ = some x → w'.cell? ⟨b, o, none⟩ = some x := fun b o x hb hx => (World.cell?_of_block (a := ⟨b, o, none⟩) (ho.block b (World.block_lt_of_cell? w _ hx) hb hb)).trans hx
  exact ⟨hk _ _ _ hp h.1, hk _ _ _ hp h.2.1, hk _ _ _ hp h.2.2.1, hk _ _ _ hp h.2.2.2.1, hk _ _ _ hq h.2.2.2.2⟩
theorem held5S {w : World} {p q o : Nat} {x0 x1 x2 x3 x4 u : Value} (ho : o = 2 ∨ o = 4 ∨ o = 6 ∨ o = 8) (hq : q ≠ p) (h : w.cell? ⟨p, 1, none⟩ = some x0 ∧ w.cell? ⟨p, 3, none⟩ = some x1 ∧ w.cell? ⟨p, 5, none⟩ = some x2 ∧ w.cell? ⟨p, 7, none⟩ = some x3 ∧ w.cell? ⟨q, 2, none⟩ = some x4) : (w.setCell ⟨p, o, none⟩ u).cell? ⟨p, 1, none⟩ = some x0 ∧ (w.setCell ⟨p, o, none⟩ u).cell? ⟨p, 3, none⟩ = some x1 ∧ (w.setCell ⟨p, o, none⟩ u).cell? ⟨p, 5, none⟩ = some x2 ∧ (w.setCell ⟨p, o, none⟩ u).cell? ⟨p, 7, none⟩ = some x3 ∧ (w.setCell ⟨p, o, none⟩ u).cell? ⟨q, 2, none⟩ = some x4 := by
  have hk : ∀ (b k : Nat) (x : Value), (b ≠ p ∨ k ≠ o) → w.cell? ⟨b, k, none⟩ = some x → (w.setCell ⟨p, o, none⟩ u).cell? ⟨b, k, none⟩ = some x := fun b k x hb hx => (World.cell?_setCell_other w ⟨p, o, none⟩ ⟨b, k, none⟩ u (fun e => by injection e; omega)).trans hx
  exact ⟨hk _ _ _ (by omega) h.1, hk _ _ _ (by omega) h.2.1, hk _ _ _ (by omega) h.2.2.1, hk _ _ _ (by omega) h.2.2.2.1, hk _ _ _ (.inl hq) h.2.2.2.2⟩
set_option maxHeartbeats 4000000 in
set_option maxRecDepth 100000 in
theorem cstep_ok (s : Sch) (A A' : Option Addr) (n c c' : Nat) (ly : Bool) (w : World) (g B E : Nat) (At : Option Addr) (nt ct : Nat) (l : List Int) (hT : Tp w g B At nt ct l)
    (hn : s.errs.length = n) (n0 : 1 ≤ n) (n8 : n ≤ 8) (hown : w.ownsRow E 3 1 (.slice A n c) n (s.errs.flatMap encI)) (hgE : g < E) (he : ∀ v ∈ s.errs, 0 ≤ v ∧ v ≤ 20) (pp0 : 0 ≤ s.ppb) (pp1 : s.ppb ≤ 1000000) :
    Calls Tryz.prog 21 #[.pointer (some ⟨g, 0, none⟩), vSch s A c A' c', .bool ly] w fun e w' => (∃ x : Stp, e = .returned (vStp x)) ∧ Tp w' g B At nt ct l ∧ Only g g w w' := by
  obtain ⟨W, hW⟩ : ∃ W, W = (w.alloc (.cells #[.int .i64 s.start, .int .i64 s.loc, .int .i64 s.ppb, .int .i64 s.liars, .int .i64 s.aim, .slice A n c, .slice A' s.steps.length c'] 25)).alloc (.cells #[.int .i64 0, .int .i64 0, .int .i64 0, .int .i64 0, .int .i64 0, .int .i64 0, .int .i64 0, .int .i64 0, .int .i64 0, .int .i64 0, .int .i64 0] 45) := ⟨_, rfl⟩
  have BW := Lib.hid (show Below w.heap.size w W by rw [hW]; exact below_alloc (below_alloc (Below.refl _ _) _) _)
  have SQ := Lib.hid (show Blk W w.heap.size 25 _ by rw [hW]; exact (Blk.new _ _ _).alloc _)
  have SR := Lib.hid (show Blk W (w.heap.size + 1) 45 _ by rw [hW]; exact Blk.new1 _ _ _ _)
  have TT := Lib.hid (hT.below BW.out)
  have TD := Lib.hid (TT.out.below (below_drew (Below.refl _ _)))
  have SD := Lib.hid SQ.out.drew
  have OE := Lib.hid hown
  have hz := hT.size
  have zW : W.heap.size = w.heap.size + 2 := by rw [hW]; simp
  have fr0 := Lib.hid (show (⟨#[.pointer (some ⟨g, 0, none⟩), .agg #[.int .i64 s.start, .int .i64 s.loc, .int .i64 s.ppb, .int .i64 s.liars, .int .i64 s.aim, .slice A n c, .slice A' s.steps.length c'], .bool ly, undef, .pointer (some ⟨w.heap.size, 0, none⟩), undef, .pointer (some ⟨w.heap.size + 1, 0, none⟩), undef, undef, undef, undef, undef, undef, undef, undef, undef, undef, undef, undef, undef, undef, undef, undef, undef, undef, undef, undef, undef, undef, undef, undef, undef, undef, undef, undef, undef, undef, undef, undef, undef, undef, undef, undef, undef, undef, undef, undef, undef, undef, undef, undef, undef, undef, undef, undef, undef, undef, undef, undef, undef, undef, undef, undef, undef, undef, undef, undef, undef, undef, undef, undef, undef, undef, undef, undef, undef, undef, undef, undef, undef, undef, undef, undef, undef, undef, undef, undef, undef, undef, undef, undef, undef, undef, undef, undef, undef], []⟩ : Act) = stFr s A A' c c' g w.heap.size ly (fun _ => undef) by unfold stFr vSch; rw [hn])
  clear hT hown
  go_enter Tryz.func21, Tryz.ntmps21
  dsimp only [vSch]
  rw [hn]
  go_wp2_with fail
  rw [← hW]
  clear hW
  refine wp_region_facts (by kernel_rfl) (stFr s A A' c c' g w.heap.size ly) (fun _ => undef) fr0.out (stF g w.heap.size n c W.heap.size A) (fun _ W1 => Only g g W.drew W1 ∧ Tp W1 g B At nt ct l) (fun _ W1 W2 => Only g g W1 W2) 18 (by rfl) ?hgl (by kernel_rfl) (by kernel_rfl) (by kernel_rfl) ⟨Only.refl _ _ _, TD.out⟩ (fun i j x w1 w2 _ h k => stF_keep j x w1 w2 h k) ?hdst ?hop ?hend
  case hgl => intro o ho; obtain rfl := Option.some.inj ho; rfl
  case hdst =>
    intro i o hi ho
    obtain rfl | rfl | rfl | rfl | rfl | rfl | rfl | rfl | rfl | rfl | rfl | rfl | rfl | rfl | rfl | rfl | rfl | rfl : i = 0 ∨ i = 1 ∨ i = 2 ∨ i = 3 ∨ i = 4 ∨ i = 5 ∨ i = 6 ∨ i = 7 ∨ i = 8 ∨ i = 9 ∨ i = 10 ∨ i = 11 ∨ i = 12 ∨ i = 13 ∨ i = 14 ∨ i = 15 ∨ i = 16 ∨ i = 17 := by omega
    all_goals
      obtain rfl := Option.some.inj ho
      exact ⟨_, rfl, rfl, fun _ _ => rfl⟩
  case hop =>
    intro i o L v W1 hi ho hu hR hd K hK
    obtain rfl | rfl | rfl | rfl | rfl | rfl | rfl | rfl | rfl | rfl | rfl | rfl | rfl | rfl | rfl | rfl | rfl | rfl : i = 0 ∨ i = 1 ∨ i = 2 ∨ i = 3 ∨ i = 4 ∨ i = 5 ∨ i = 6 ∨ i = 7 ∨ i = 8 ∨ i = 9 ∨ i = 10 ∨ i = 11 ∨ i = 12 ∨ i = 13 ∨ i = 14 ∨ i = 15 ∨ i = 16 ∨ i = 17 := by omega
    · obtain rfl := Option.some.inj ho
      simp only [stFr] at hK ⊢
      go_simp
      exact hK _ _ hR (Only.refl g g _) rfl
    · obtain rfl := Option.some.inj ho
      simp only [stFr] at hK ⊢
      go_simp
      exact hK _ _ hR (Only.refl g g _) rfl
    · obtain rfl := Option.some.inj ho
      have h1 : v 10 = .pointer (some ⟨w.heap.size, 5, none⟩) := hd ⟨1, .data⟩ (by simp) rfl _ 10 rfl rfl
      have c5 : W1.cell? ⟨w.heap.size, 5, none⟩ = some (.slice A n c) := (SD.out.keepO hR.1 (by omega) (by omega)).cell 5
      simp only [stFr, h1] at hK ⊢
      go_simp
      exact hK _ _ hR (Only.refl g g _) rfl
    · obtain rfl := Option.some.inj ho
      have h1 : v 11 = .slice A n c := hd ⟨2, .data⟩ (by simp) rfl _ 11 rfl rfl
      simp only [stFr, h1] at hK ⊢
      go_simp
      exact hK _ _ hR (Only.refl g g _) rfl
    · obtain rfl := Option.some.inj ho
      have h1 : v 9 = .pointer (some ⟨g, 0, none⟩) := hd ⟨0, .data⟩ (by simp) rfl _ 9 rfl rfl
      have h2 : v 12 = .int .i64 (n : Int) := hd ⟨3, .data⟩ (by simp) rfl _ 12 rfl rfl
      simp only [stFr, h1, h2] at hK ⊢
      go_simp
      refine (Int_ok (n : Int) W1 g B At nt ct l hR.2 (by omega) (by omega)).mono ?_
      rintro e w2 ⟨⟨r, rfl, r0, r1⟩, ht, ho⟩
      exact hK _ _ ⟨hR.1.trans ho, ht⟩ ho ⟨r, rfl, r0, r1⟩
    · obtain rfl := Option.some.inj ho
      simp only [stFr] at hK ⊢
      go_simp
      exact hK _ _ hR (Only.refl g g _) rfl
    · obtain rfl := Option.some.inj ho
      have h1 : v 14 = .pointer (some ⟨g, 0, none⟩) := hd ⟨5, .data⟩ (by simp) rfl _ 14 rfl rfl
      simp only [stFr, h1] at hK ⊢
      go_simp
      refine (dur_ok W1 g B At nt ct l hR.2).mono ?_
      rintro e w2 ⟨⟨r, rfl, r0, r1⟩, ht, ho⟩
      exact hK _ _ ⟨hR.1.trans ho, ht⟩ ho ⟨r, rfl, r0, r1⟩
    · obtain rfl := Option.some.inj ho
      simp only [stFr] at hK ⊢
      go_simp
      exact hK _ _ hR (Only.refl g g _) rfl
    · obtain rfl := Option.some.inj ho
      have h1 : v 16 = .pointer (some ⟨g, 0, none⟩) := hd ⟨7, .data⟩ (by simp) rfl _ 16 rfl rfl
      simp only [stFr, h1] at hK ⊢
      go_simp
      refine (dur_ok W1 g B At nt ct l hR.2).mono ?_
      rintro e w2 ⟨⟨r, rfl, r0, r1⟩, ht, ho⟩
      exact hK _ _ ⟨hR.1.trans ho, ht⟩ ho ⟨r, rfl, r0, r1⟩
    · obtain rfl := Option.some.inj ho
      simp only [stFr] at hK ⊢
      go_simp
      have hgz : g < W1.heap.size := hR.2.size
      exact hK _ _ ⟨hR.1.alloc _, hR.2.below (below_alloc (Below.refl _ _) _)⟩ ((Only.refl g g _).alloc _) ⟨W1.heap.size, rfl, by omega, Blk.new _ _ _⟩
    · obtain rfl := Option.some.inj ho
      simp only [stFr] at hK ⊢
      go_simp
      exact hK _ _ hR (Only.refl g g _) rfl
    · obtain rfl := Option.some.inj ho
      have h1 : v 19 = .pointer (some ⟨g, 0, none⟩) := hd ⟨10, .data⟩ (by simp) rfl _ 19 rfl rfl
      simp only [stFr, h1] at hK ⊢
      go_simp
      refine (Int_ok 3 W1 g B At nt ct l hR.2 (by omega) (by omega)).mono ?_
      rintro e w2 ⟨⟨r, rfl, r0, r1⟩, ht, ho⟩
      exact hK _ _ ⟨hR.1.trans ho, ht⟩ ho ⟨r, rfl, r0, r1⟩
    · obtain rfl := Option.some.inj ho
      have h1 : ∃ b : Nat, v 18 = .slice (some ⟨b, 0, none⟩) 3 3 ∧ b ≠ g ∧ Blk W1 b 3 #[.int .i64 0, .int .i64 2, .int .i64 50] := hd ⟨9, .data⟩ (by simp) rfl _ 18 rfl rfl
      have h2 : ∃ r : Int, v 20 = .int .i64 r ∧ 0 ≤ r ∧ r < 3 := hd ⟨11, .data⟩ (by simp) rfl _ 20 rfl rfl
      obtain ⟨b, h1, hb1, hb2⟩ := h1
      obtain ⟨r, h2, r0, r1⟩ := h2
      obtain ⟨k, rfl⟩ : ∃ k : Nat, r = k := ⟨r.toNat, by omega⟩
      simp only [stFr, h1, h2] at hK ⊢
      go_simp
      exact hK _ _ hR (Only.refl g g _) ⟨b, k, rfl, by omega, hb1, hb2⟩
    · obtain rfl := Option.some.inj ho
      have h1 : ∃ b k : Nat, v 21 = .pointer (some ⟨b, k, none⟩) ∧ k < 3 ∧ b ≠ g ∧ Blk W1 b 3 #[.int .i64 0, .int .i64 2, .int .i64 50] := hd ⟨12, .data⟩ (by simp) rfl _ 21 rfl rfl
      obtain ⟨b, k, h1, hk, hb1, hb2⟩ := h1
      obtain rfl | rfl | rfl : k = 0 ∨ k = 1 ∨ k = 2 := by omega
      · have c0 : W1.cell? ⟨b, 0, none⟩ = some (.int .i64 0) := hb2.cell 0
        simp only [stFr, h1] at hK ⊢
        go_simp
        exact hK _ _ hR (Only.refl g g _) ⟨0, rfl, by omega, by omega⟩
      · have c0 : W1.cell? ⟨b, 1, none⟩ = some (.int .i64 2) := hb2.cell 1
        simp only [stFr, h1] at hK ⊢
        go_simp
        exact hK _ _ hR (Only.refl g g _) ⟨2, rfl, by omega, by omega⟩
      · have c0 : W1.cell? ⟨b, 2, none⟩ = some (.int .i64 50) := hb2.cell 2
        simp only [stFr, h1] at hK ⊢
        go_simp
        exact hK _ _ hR (Only.refl g g _) ⟨50, rfl, by omega, by omega⟩
    · obtain rfl := Option.some.inj ho
      simp only [stFr] at hK ⊢
      go_simp
      exact hK _ _ hR (Only.refl g g _) rfl
    · obtain rfl := Option.some.inj ho
      have h1 : v 23 = .pointer (some ⟨g, 0, none⟩) := hd ⟨14, .data⟩ (by simp) rfl _ 23 rfl rfl
      simp only [stFr, h1] at hK ⊢
      go_simp
      refine (dur_ok W1 g B At nt ct l hR.2).mono ?_
      rintro e w2 ⟨⟨r, rfl, r0, r1⟩, ht, ho⟩
      exact hK _ _ ⟨hR.1.trans ho, ht⟩ ho ⟨r, rfl, r0, r1⟩
    · obtain rfl := Option.some.inj ho
      have h4 : ∃ r : Int, v 13 = .int .i64 r ∧ 0 ≤ r ∧ r < n := hd ⟨4, .data⟩ (by simp) rfl _ 13 rfl rfl
      have h6 : ∃ d : Int, v 15 = .int .i64 d ∧ 0 ≤ d ∧ d ≤ 3000000 := hd ⟨6, .data⟩ (by simp) rfl _ 15 rfl rfl
      have h8 : ∃ d : Int, v 17 = .int .i64 d ∧ 0 ≤ d ∧ d ≤ 3000000 := hd ⟨8, .data⟩ (by simp) rfl _ 17 rfl rfl
      have h13 : ∃ d : Int, v 22 = .int .i64 d ∧ 0 ≤ d ∧ d ≤ 50 := hd ⟨13, .data⟩ (by simp) rfl _ 22 rfl rfl
      have h15 : ∃ d : Int, v 24 = .int .i64 d ∧ 0 ≤ d ∧ d ≤ 3000000 := hd ⟨15, .data⟩ (by simp) rfl _ 24 rfl rfl
      obtain ⟨r, h4, r0, r1⟩ := h4
      obtain ⟨d1, h6, b1, b2⟩ := h6
      obtain ⟨d2, h8, b3, b4⟩ := h8
      obtain ⟨d3, h13, b5, b6⟩ := h13
      obtain ⟨d4, h15, b7, b8⟩ := h15
      simp only [stFr, h4, h6, h8, h13, h15] at hK ⊢
      go_simp
      exact hK _ _ hR (Only.refl g g _) ⟨r, d1, d2, d3, d4, rfl, ⟨r0, r1⟩, ⟨b1, b2⟩, ⟨b3, b4⟩, ⟨b5, b6⟩, ⟨b7, b8⟩⟩
    · obtain rfl := Option.some.inj ho
      simp only [stFr] at hK ⊢
      go_simp
      have hgz : g < W1.heap.size := hR.2.size
      have hzz : W.heap.size ≤ W1.heap.size := hR.1.size
      exact hK _ _ ⟨hR.1.alloc _, hR.2.below (below_alloc (Below.refl _ _) _)⟩ ((Only.refl g g _).alloc _) ⟨W1.heap.size, rfl, by omega, hzz, Blk.new _ _ _⟩
  case hend =>
    intro o L v W1 ho hR hF
    obtain rfl := Option.some.inj ho
    have h7 : ∃ p : Nat, v 7 = .pointer (some ⟨p, 0, none⟩) ∧ p ≠ g ∧ W.heap.size ≤ p ∧ Blk W1 p 45 #[.int .i64 0, .int .i64 0, .int .i64 0, .int .i64 0, .int .i64 0, .int .i64 0, .int .i64 0, .int .i64 0, .int .i64 0, .int .i64 0, .int .i64 0] := hF 17 _ 7 (by omega) rfl rfl
    have h25 : ∃ r d1 d2 d3 d4 : Int, v 25 = .agg #[.int .i64 r, .int .i64 d1, .int .i64 0, .int .i64 d2, .int .i64 0, .int .i64 d3, .int .i64 0, .int .i64 d4, .int .i64 0, .int .i64 0, .int .i64 0] ∧ (0 ≤ r ∧ r < n) ∧ (0 ≤ d1 ∧ d1 ≤ 3000000) ∧ (0 ≤ d2 ∧ d2 ≤ 3000000) ∧ (0 ≤ d3 ∧ d3 ≤ 50) ∧ (0 ≤ d4 ∧ d4 ≤ 3000000) := hF 16 _ 25 (by omega) rfl rfl
    obtain ⟨p, h7, p1, p2, p3⟩ := h7
    obtain ⟨r, d1, d2, d3, d4, h25, ⟨r0, r1⟩, ⟨b1, b2⟩, ⟨b3, b4⟩, ⟨b5, b6⟩, ⟨b7, b8⟩⟩ := h25
    have T1 := Lib.hid hR.2
    have O1 := Lib.hid ((Only.of BW.out).trans (((Only.refl g g W).drew).trans hR.1))
    have P3 := Lib.hid p3
    have hp := p3.lt
    obtain ⟨x0, x1, x2, x3, x4, x5, x6, x7, x8, x9, x10⟩ := blk11 p3
    obtain ⟨f0, f1, f2, f3, f4, f5, f6, f7, f8, f9, f10⟩ := frz11 p3
    obtain ⟨Wp, hWp⟩ : ∃ Wp, Wp = ((((((((((W1.setCell ⟨p, 0, none⟩ (.int .i64 r)).setCell ⟨p, 1, none⟩ (.int .i64 d1)).setCell ⟨p, 2, none⟩ (.int .i64 0)).setCell ⟨p, 3, none⟩ (.int .i64 d2)).setCell ⟨p, 4, none⟩ (.int .i64 0)).setCell ⟨p, 5, none⟩ (.int .i64 d3)).setCell ⟨p, 6, none⟩ (.int .i64 0)).setCell ⟨p, 7, none⟩ (.int .i64 d4)).setCell ⟨p, 8, none⟩ (.int .i64 0)).setCell ⟨p, 9, none⟩ (.int .i64 0)).setCell ⟨p, 10, none⟩ (.int .i64 0) := ⟨_, rfl⟩
    have hBg := T1.out.lt
    have P4 := Lib.hid (show Blk Wp p 45 #[.int .i64 r, .int .i64 d1, .int .i64 0, .int .i64 d2, .int .i64 0, .int .i64 d3, .int .i64 0, .int .i64 d4, .int .i64 0, .int .i64 0, .int .i64 0] by rw [hWp]; exact fill11 P3.out)
    have T4 := Lib.hid (show Tp Wp g B At nt ct l by rw [hWp]; repeat (with_reducible first | exact T1.out | refine Tp.setNew (r := none) ?_ p1 (by omega) _))
    have O4 := Lib.hid (show Only g g w Wp by rw [hWp]; repeat (with_reducible first | exact O1.out | refine Only.setNew ?_ (by omega) _))
    have Q4 := Lib.hid (SQ.out.keepO (show Only g g W Wp by rw [hWp]; repeat (with_reducible first | exact ((Only.refl g g W).drew).trans hR.1 | refine Only.setNew ?_ p2 _)) (by omega) (by omega))
    have R4 := Lib.hid (SR.out.keepO (show Only g g W Wp by rw [hWp]; repeat (with_reducible first | exact ((Only.refl g g W).drew).trans hR.1 | refine Only.setNew ?_ p2 _)) (by omega) (by omega))
    clear hF p3
    simp only [stFr, h7, h25]
    go_simp
    rw [← hWp]
    clear hWp P3 T1 O1 x0 x1 x2 x3 x4 x5 x6 x7 x8 x9 x10 f0 f1 f2 f3 f4 f5 f6 f7 f8 f9 f10 h7 h25
    have b6' : d3 ≤ 3000000 := by omega
    have hP9 := Lib.hid P4.out.drew
    have hT9 := Lib.hid (T4.out.below (below_drew (Below.refl _ _)))
    have hO9 := Lib.hid ((Only.refl g g Wp).drew)
    have hS9 : Wp.drew.cell? ⟨p, 1, none⟩ = some (.int .i64 d1) ∧ Wp.drew.cell? ⟨p, 3, none⟩ = some (.int .i64 d2) ∧ Wp.drew.cell? ⟨p, 5, none⟩ = some (.int .i64 d3) ∧ Wp.drew.cell? ⟨p, 7, none⟩ = some (.int .i64 d4) ∧ Wp.drew.cell? ⟨w.heap.size, 2, none⟩ = some (.int .i64 s.ppb) := ⟨P4.out.cell 1, P4.out.cell 3, P4.out.cell 5, P4.out.cell 7, Q4.out.cell 2⟩
    have u1 : p ≠ w.heap.size := by omega
    have u2 : w.heap.size ≠ p := by omega
    have u3 : w.heap.size ≠ g := by omega
    go_wp2_with fail
    go_region_held3 (fun W => W.cell? ⟨p, 1, none⟩ = some (.int .i64 d1) ∧ W.cell? ⟨p, 3, none⟩ = some (.int .i64 d2) ∧ W.cell? ⟨p, 5, none⟩ = some (.int .i64 d3) ∧ W.cell? ⟨p, 7, none⟩ = some (.int .i64 d4) ∧ W.cell? ⟨w.heap.size, 2, none⟩ = some (.int .i64 s.ppb)) (first | with_reducible exact hS9 | exact held5S (by decide) u2 (by assumption) | go_keep) (first
      | (go_at_call 39; refine (Next_ok _ g B At nt ct l hT9.out).mono ?_; rintro e w9 ⟨⟨v9, rfl⟩, t9, o9⟩; have hS9 := held5O hS9 o9 p1 u3; have hT9 := Lib.hid t9; have hO9 := Lib.hid (hO9.out.trans o9); have hP9 := Lib.hid (hP9.out.keepO o9 p1 p1); clear t9 o9)
      | (go_at_call_of 41 (Value.int IntKind.i64 d1); refine (local_ok d1 s.ppb _ _ b1 b2 pp0 pp1).mono ?_; rintro e w9 ⟨⟨l1, rfl, _, _⟩, hb9⟩; have o9 := Only.of (a := g) (b := g) hb9; have hS9 := held5O hS9 o9 p1 u3; have hT9 := Lib.hid (hT9.out.below hb9); have hO9 := Lib.hid (hO9.out.trans o9); have hP9 := Lib.hid (hP9.out.keepO o9 p1 p1); clear hb9 o9)
      | (go_at_call_of 41 (Value.int IntKind.i64 d2); refine (local_ok d2 s.ppb _ _ b3 b4 pp0 pp1).mono ?_; rintro e w9 ⟨⟨l2, rfl, _, _⟩, hb9⟩; have o9 := Only.of (a := g) (b := g) hb9; have hS9 := held5O hS9 o9 p1 u3; have hT9 := Lib.hid (hT9.out.below hb9); have hO9 := Lib.hid (hO9.out.trans o9); have hP9 := Lib.hid (hP9.out.keepO o9 p1 p1); clear hb9 o9)
      | (go_at_call_of 41 (Value.int IntKind.i64 d3); refine (local_ok d3 s.ppb _ _ b5 b6' pp0 pp1).mono ?_; rintro e w9 ⟨⟨l3, rfl, _, _⟩, hb9⟩; have o9 := Only.of (a := g) (b := g) hb9; have hS9 := held5O hS9 o9 p1 u3; have hT9 := Lib.hid (hT9.out.below hb9); have hO9 := Lib.hid (hO9.out.trans o9); have hP9 := Lib.hid (hP9.out.keepO o9 p1 p1); clear hb9 o9)
      | (go_at_call_of 41 (Value.int IntKind.i64 d4); refine (local_ok d4 s.ppb _ _ b7 b8 pp0 pp1).mono ?_; rintro e w9 ⟨⟨l4, rfl, _, _⟩, hb9⟩; have o9 := Only.of (a := g) (b := g) hb9; have hS9 := held5O hS9 o9 p1 u3; have hT9 := Lib.hid (hT9.out.below hb9); have hO9 := Lib.hid (hO9.out.trans o9); have hP9 := Lib.hid (hP9.out.keepO o9 p1 p1); clear hb9 o9; have y2 := hP9.out.cell 2; have y4 := hP9.out.cell 4; have y6 := hP9.out.cell 6; have y8 := hP9.out.cell 8; have z2 := hP9.out.frozen 2; have z4 := hP9.out.frozen 4; have z6 := hP9.out.frozen 6; have z8 := hP9.out.frozen 8; have z0 := hP9.out.lt))
    obtain ⟨Wq, hWq⟩ : ∃ Wq, Wq = (((w9.setCell ⟨p, 2, none⟩ (.int .i64 l1)).setCell ⟨p, 4, none⟩ (.int .i64 l2)).setCell ⟨p, 6, none⟩ (.int .i64 l3)).setCell ⟨p, 8, none⟩ (.int .i64 l4) := ⟨_, rfl⟩
    have c0 : Blk (w9.setCell ⟨p, 2, none⟩ (.int .i64 l1)) p 45 #[.int .i64 r, .int .i64 d1, .int .i64 l1, .int .i64 d2, .int .i64 0, .int .i64 d3, .int .i64 0, .int .i64 d4, .int .i64 0, .int .i64 0, .int .i64 0] := hP9.out.set 2 _
    have c1 : Blk ((w9.setCell ⟨p, 2, none⟩ (.int .i64 l1)).setCell ⟨p, 4, none⟩ (.int .i64 l2)) p 45 #[.int .i64 r, .int .i64 d1, .int .i64 l1, .int .i64 d2, .int .i64 l2, .int .i64 d3, .int .i64 0, .int .i64 d4, .int .i64 0, .int .i64 0, .int .i64 0] := c0.set 4 _
    have c2 : Blk (((w9.setCell ⟨p, 2, none⟩ (.int .i64 l1)).setCell ⟨p, 4, none⟩ (.int .i64 l2)).setCell ⟨p, 6, none⟩ (.int .i64 l3)) p 45 #[.int .i64 r, .int .i64 d1, .int .i64 l1, .int .i64 d2, .int .i64 l2, .int .i64 d3, .int .i64 l3, .int .i64 d4, .int .i64 0, .int .i64 0, .int .i64 0] := c1.set 6 _
    have c3 : Blk ((((w9.setCell ⟨p, 2, none⟩ (.int .i64 l1)).setCell ⟨p, 4, none⟩ (.int .i64 l2)).setCell ⟨p, 6, none⟩ (.int .i64 l3)).setCell ⟨p, 8, none⟩ (.int .i64 l4)) p 45 #[.int .i64 r, .int .i64 d1, .int .i64 l1, .int .i64 d2, .int .i64 l2, .int .i64 d3, .int .i64 l3, .int .i64 d4, .int .i64 l4, .int .i64 0, .int .i64 0] := c2.set 8 _
    have P5 := Lib.hid (show Blk Wq p 45 #[.int .i64 r, .int .i64 d1, .int .i64 l1, .int .i64 d2, .int .i64 l2, .int .i64 d3, .int .i64 l3, .int .i64 d4, .int .i64 l4, .int .i64 0, .int .i64 0] by rw [hWq]; exact c3)
    have O5 := Lib.hid (show Only g g w Wq by rw [hWq]; repeat (with_reducible first | exact O4.out.trans hO9.out | refine Only.setNew ?_ (by omega) _))
    have T5 := Lib.hid (show Tp Wq g B At nt ct l by rw [hWq]; repeat (with_reducible first | exact hT9.out | refine Tp.setNew (r := none) ?_ p1 (by omega) _))
    have Q5 := Lib.hid (show Blk Wq w.heap.size _ _ by rw [hWq]; exact ((((Q4.out.keepO hO9.out u3 u3).far (p := ⟨_, _, _⟩) u2 _).far (p := ⟨_, _, _⟩) u2 _).far (p := ⟨_, _, _⟩) u2 _).far (p := ⟨_, _, _⟩) u2 _)
    have u4 : w.heap.size + 1 ≠ g := by omega
    have u5 : w.heap.size + 1 ≠ p := by omega
    have R5 := Lib.hid (show Blk Wq (w.heap.size + 1) _ _ by rw [hWq]; exact ((((R4.out.keepO hO9.out u4 u4).far (p := ⟨_, _, _⟩) u5 _).far (p := ⟨_, _, _⟩) u5 _).far (p := ⟨_, _, _⟩) u5 _).far (p := ⟨_, _, _⟩) u5 _)
    have E5 := Lib.hid (own_only OE.out O5.out hgE hgE)
    rw [← hWq]
    clear hWq c0 c1 c2 c3 hP9 hT9 hO9 hS9 P4 T4 O4 Q4 R4 y2 y4 y6 y8 z2 z4 z6 z8 z0
    obtain ⟨b, cap, hA, hEb, hblt⟩ := E5.out.form n0
    simp only [Value.slice.injEq, true_and] at hA
    obtain ⟨rfl, rfl⟩ := hA
    obtain ⟨k, rfl⟩ : ∃ k : Nat, r = k := ⟨r.toNat, by omega⟩
    obtain ⟨e, hee⟩ : ∃ e, s.errs[k]? = some e := ⟨_, List.getElem?_eq_getElem (by omega)⟩
    have heb := he e (List.mem_of_getElem? hee)
    have ce : Wq.cell? ⟨b, k, none⟩ = some (.int .i64 e) := by
      rw [E5.out.cellAt k (by omega), flatI, List.getElem?_map, hee]
      rfl
    have q5 : Wq.cell? ⟨w.heap.size, 5, none⟩ = some (.slice (some ⟨b, 0, none⟩) n c) := Q5.out.cell 5
    have x0 : Wq.cell? ⟨p, 0, none⟩ = some (.int .i64 (k : Int)) := P5.out.cell 0
    have n1 : IntKind.i64.wrap (-e) = -e := IntWalk.i64_in _ (by omega)
    have i1 : (0 : Int) ≤ (k : Int) := by omega
    have i2 : (k : Int) < (n : Int) := by omega
    clear hee E5
    go_wp2_with fail
    clear ce q5 x0
    refine (Range_ok (-e) e Wq g B At nt ct l T5.out (by omega) (by omega) (by omega)).mono ?_
    rintro e1 wa ⟨⟨m2, rfl, _, _⟩, ta, oa⟩
    have Ta := Lib.hid ta
    have Oa := Lib.hid oa
    clear ta oa
    go_wp2_with fail
    refine (Range_ok (-e) e wa g B At nt ct l Ta.out (by omega) (by omega) (by omega)).mono ?_
    rintro e1 wb ⟨⟨m3, rfl, _, _⟩, tb, ob⟩
    have Tb := Lib.hid tb
    have Ob := Lib.hid (Oa.out.trans ob)
    have P6 := Lib.hid (P5.out.keepO Ob.out p1 p1)
    have Q6 := Lib.hid (Q5.out.keepO Ob.out u3 u3)
    have R6 := Lib.hid (R5.out.keepO Ob.out u4 u4)
    have O6 := Lib.hid (O5.out.trans Ob.out)
    clear tb ob Ta Oa Ob P5 Q5 R5 O5 T5
    have vp := P6.out.lt
    have vq := Q6.out.lt
    have vr := R6.out.lt
    obtain ⟨x0, x1, x2, x3, x4, x5, x6, x7, x8, x9, x10⟩ := blk11 P6.out
    obtain ⟨f0, f1, f2, f3, f4, f5, f6, f7, f8, f9, f10⟩ := frz11 P6.out
    obtain ⟨y0, y1, y2, y3, y4, y5, y6, y7, y8, y9, y10⟩ := blk11 R6.out
    obtain ⟨z0, z1, z2, z3, z4, z5, z6, z7, z8, z9, z10⟩ := frz11 R6.out
    have q3 : wb.cell? ⟨w.heap.size, 3, none⟩ = some (.int .i64 s.liars) := Q6.out.cell 3
    cases ly
    case false =>
      go_wp2
      exact bodyPost_ret (v := .agg #[.int .i64 (k : Int), .int .i64 d1, .int .i64 l1, .int .i64 d2, .int .i64 l2, .int .i64 d3, .int .i64 l3, .int .i64 d4, .int .i64 l4, .int .i64 m2, .int .i64 m3]) (by rw [results_cell Tryz.results21]; go_simp) rfl ⟨⟨⟨(k : Int), d1, l1, d2, l2, d3, l3, d4, l4, m2, m3⟩, rfl⟩, (by repeat (with_reducible first | exact Tb.out | refine Tp.setNew (r := none) ?_ (by first | exact p1 | exact u4) (by omega) _)), (by repeat (with_reducible first | exact O6.out | refine Only.setNew ?_ (by omega) _))⟩
    by_cases hl : (k : Int) < s.liars
    case neg =>
      have t1 : decide ((k : Int) < s.liars) = false := by simp; omega
      go_wp2
      exact bodyPost_ret (v := .agg #[.int .i64 (k : Int), .int .i64 d1, .int .i64 l1, .int .i64 d2, .int .i64 l2, .int .i64 d3, .int .i64 l3, .int .i64 d4, .int .i64 l4, .int .i64 m2, .int .i64 m3]) (by rw [results_cell Tryz.results21]; go_simp) rfl ⟨⟨⟨(k : Int), d1, l1, d2, l2, d3, l3, d4, l4, m2, m3⟩, rfl⟩, (by repeat (with_reducible first | exact Tb.out | refine Tp.setNew (r := none) ?_ (by first | exact p1 | exact u4) (by omega) _)), (by repeat (with_reducible first | exact O6.out | refine Only.setNew ?_ (by omega) _))⟩
    have t1 : decide ((k : Int) < s.liars) = true := by simp [hl]
    go_wp2_with fail
    obtain ⟨Wc, hWc⟩ : ∃ Wc, Wc = (wb.setCell ⟨p, 9, none⟩ (.int .i64 m2)).setCell ⟨p, 10, none⟩ (.int .i64 m3) := ⟨_, rfl⟩
    have c0 : Blk (wb.setCell ⟨p, 9, none⟩ (.int .i64 m2)) p 45 #[.int .i64 (k : Int), .int .i64 d1, .int .i64 l1, .int .i64 d2, .int .i64 l2, .int .i64 d3, .int .i64 l3, .int .i64 d4, .int .i64 l4, .int .i64 m2, .int .i64 0] := P6.out.set 9 _
    have c1 : Blk ((wb.setCell ⟨p, 9, none⟩ (.int .i64 m2)).setCell ⟨p, 10, none⟩ (.int .i64 m3)) p 45 #[.int .i64 (k : Int), .int .i64 d1, .int .i64 l1, .int .i64 d2, .int .i64 l2, .int .i64 d3, .int .i64 l3, .int .i64 d4, .int .i64 l4, .int .i64 m2, .int .i64 m3] := c0.set 10 _
    have P7 := Lib.hid (show Blk Wc p _ _ by rw [hWc]; exact c1)
    have T7 := Lib.hid (show Tp Wc g B At nt ct l by rw [hWc]; exact (Tb.out.setNew (r := none) p1 (by omega) _).setNew (r := none) p1 (by omega) _)
    have O7 := Lib.hid (show Only g g w Wc by rw [hWc]; exact (O6.out.setNew (by omega) _).setNew (by omega) _)
    have R7 := Lib.hid (show Blk Wc (w.heap.size + 1) _ _ by rw [hWc]; exact (R6.out.far (p := ⟨_, _, _⟩) u5 _).far (p := ⟨_, _, _⟩) u5 _)
    rw [← hWc]
    clear hWc c0 c1 P6 R6 O6 Tb Q6 vp vq vr x0 x1 x2 x3 x4 x5 x6 x7 x8 x9 x10 f0 f1 f2 f3 f4 f5 f6 f7 f8 f9 f10 y0 y1 y2 y3 y4 y5 y6 y7 y8 y9 y10 z0 z1 z2 z3 z4 z5 z6 z7 z8 z9 z10 q3 t1
    refine (Range_ok (-4000) 4000 Wc g B At nt ct l T7.out (by omega) (by omega) (by omega)).mono ?_
    rintro e1 wd ⟨⟨m4, rfl, _, _⟩, td, od⟩
    have Td := Lib.hid td
    have Od := Lib.hid od
    clear td od
    go_wp2_with fail
    refine (Range_ok (-4000) 4000 wd g B At nt ct l Td.out (by omega) (by omega) (by omega)).mono ?_
    rintro e1 we ⟨⟨m5, rfl, _, _⟩, te, oe⟩
    have Te := Lib.hid te
    have Oe := Lib.hid (Od.out.trans oe)
    have P8 := Lib.hid (P7.out.keepO Oe.out p1 p1)
    have R8 := Lib.hid (R7.out.keepO Oe.out u4 u4)
    have O8 := Lib.hid (O7.out.trans Oe.out)
    clear te oe Td Od Oe P7 R7 O7 T7
    obtain ⟨We, hWe⟩ : ∃ We, We = (we.setCell ⟨p, 9, none⟩ (.int .i64 m4)).setCell ⟨p, 10, none⟩ (.int .i64 m5) := ⟨_, rfl⟩
    have c0 : Blk (we.setCell ⟨p, 9, none⟩ (.int .i64 m4)) p 45 #[.int .i64 (k : Int), .int .i64 d1, .int .i64 l1, .int .i64 d2, .int .i64 l2, .int .i64 d3, .int .i64 l3, .int .i64 d4, .int .i64 l4, .int .i64 m4, .int .i64 m3] := P8.out.set 9 _
    have c1 : Blk ((we.setCell ⟨p, 9, none⟩ (.int .i64 m4)).setCell ⟨p, 10, none⟩ (.int .i64 m5)) p 45 #[.int .i64 (k : Int), .int .i64 d1, .int .i64 l1, .int .i64 d2, .int .i64 l2, .int .i64 d3, .int .i64 l3, .int .i64 d4, .int .i64 l4, .int .i64 m4, .int .i64 m5] := c0.set 10 _
    have P9 := Lib.hid (show Blk We p _ _ by rw [hWe]; exact c1)
    have T9 := Lib.hid (show Tp We g B At nt ct l by rw [hWe]; exact (Te.out.setNew (r := none) p1 (by omega) _).setNew (r := none) p1 (by omega) _)
    have O9 := Lib.hid (show Only g g w We by rw [hWe]; exact (O8.out.setNew (by omega) _).setNew (by omega) _)
    have R9 := Lib.hid (show Blk We (w.heap.size + 1) _ _ by rw [hWe]; exact (R8.out.far (p := ⟨_, _, _⟩) u5 _).far (p := ⟨_, _, _⟩) u5 _)
    have vp := P8.out.lt
    have x9 : we.cell? ⟨p, 9, none⟩ = some (.int .i64 m2) := P8.out.cell 9
    have x10 : we.cell? ⟨p, 10, none⟩ = some (.int .i64 m3) := P8.out.cell 10
    have f9 : we.frozen? ⟨p, 9, none⟩ = false := P8.out.frozen 9
    have f10 : we.frozen? ⟨p, 10, none⟩ = false := P8.out.frozen 10
    clear c0 c1
    go_wp2_with fail
    rw [← hWe]
    clear hWe vp x9 x10 f9 f10 P8 R8 O8 Te
    refine (Bool_ok 2 We g B At nt ct l T9.out (by omega) (by omega)).mono ?_
    rintro e1 wf ⟨⟨bb, rfl⟩, tf, of⟩
    have Tf := Lib.hid tf
    have P10 := Lib.hid (P9.out.keepO of p1 p1)
    have R10 := Lib.hid (R9.out.keepO of u4 u4)
    have O10 := Lib.hid (O9.out.trans of)
    clear tf of P9 R9 O9 T9
    have vp := P10.out.lt
    have vr := R10.out.lt
    obtain ⟨x0, x1, x2, x3, x4, x5, x6, x7, x8, x9, x10⟩ := blk11 P10.out
    obtain ⟨f0, f1, f2, f3, f4, f5, f6, f7, f8, f9, f10⟩ := frz11 P10.out
    obtain ⟨y0, y1, y2, y3, y4, y5, y6, y7, y8, y9, y10⟩ := blk11 R10.out
    obtain ⟨z0, z1, z2, z3, z4, z5, z6, z7, z8, z9, z10⟩ := frz11 R10.out
    cases bb
    case false =>
      go_wp2
      exact bodyPost_ret (v := .agg #[.int .i64 (k : Int), .int .i64 d1, .int .i64 l1, .int .i64 d2, .int .i64 l2, .int .i64 d3, .int .i64 l3, .int .i64 d4, .int .i64 l4, .int .i64 m4, .int .i64 m5]) (by rw [results_cell Tryz.results21]; go_simp) rfl ⟨⟨⟨(k : Int), d1, l1, d2, l2, d3, l3, d4, l4, m4, m5⟩, rfl⟩, (by repeat (with_reducible first | exact Tf.out | refine Tp.setNew (r := none) ?_ (by first | exact p1 | exact u4) (by omega) _)), (by repeat (with_reducible first | exact O10.out | refine Only.setNew ?_ (by omega) _))⟩
    case true =>
      go_wp2
      exact bodyPost_ret (v := .agg #[.int .i64 (k : Int), .int .i64 d1, .int .i64 l1, .int .i64 d2, .int .i64 l2, .int .i64 d3, .int .i64 l3, .int .i64 d4, .int .i64 l4, .int .i64 m4, .int .i64 m4]) (by rw [results_cell Tryz.results21]; go_simp) rfl ⟨⟨⟨(k : Int), d1, l1, d2, l2, d3, l3, d4, l4, m4, m4⟩, rfl⟩, (by repeat (with_reducible first | exact Tf.out | refine Tp.setNew (r := none) ?_ (by first | exact p1 | exact u4) (by omega) _)), (by repeat (with_reducible first | exact O10.out | refine Only.setNew ?_ (by omega) _))⟩
end Go.Proofs.YtnafhblioabkgaaGreat
