/- The reference's layer 41: what a client reports behind each step. -/
import Derived.Test.YtnafhblioabkgaaGreatRMind
import Derived.Test.YtnafhblioabkgaaGreatRRead
import Derived.Test.YtnafhblioabkgaaGreatRSimc
import Derived.BigQuiet
import Derived.Deep.QuietTactic
namespace Go.Proofs.YtnafhblioabkgaaGreat
open Go.RowKit

theorem rRead_ok (c : Ck) (t lo hi : Int) (w : World) (hc : c.goodAt t) (hs : okS lo hi = true) :
    Calls Tryz.prog 26 #[.agg #[.int .i64 c.aim, .int .i64 c.rate, .bool c.set, .bool c.held, .int .i64 c.a, .int .i64 c.shown], .int .i64 t, .agg #[.int .i64 lo, .int .i64 hi]] w fun e w' =>
      e = .returned (.tuple #[.agg #[.int .i64 (c.read t lo hi).aim, .int .i64 (c.read t lo hi).rate, .bool (c.read t lo hi).set, .bool (c.read t lo hi).held, .int .i64 (c.read t lo hi).a, .int .i64 (c.read t lo hi).shown], .int .i64 0]) ∧ Below w.heap.size w w' := by
  unfold Ck.read
  cases hset : c.set
  · have := rRead_first c t lo hi w hc hs hset
    rw [hset] at this
    exact this
  · by_cases hh : hi < c.shown
    · have := rRead_held c t lo hi w hc hs hset hh
      rw [hset] at this
      simp only [hh, if_true]
      exact this
    · have := rRead_free c t lo hi w hc hs hset hh
      rw [hset] at this
      simp only [hh, if_false, if_true]
      exact this
theorem make_bool (n : Nat) (h1 : 1 ≤ n) (h8 : n ≤ 8) (w : World) : (Instr.makeSlice 61 (.int .i64 (n : Int)) (.int .i64 (n : Int))).run Tryz.prog w = .ok (.slice (some ⟨w.heap.size, 0, none⟩) n n) (w.alloc (.cells ((List.replicate n (none : Option Kn)).flatMap encB).toArray 4)) := by
  have h : n = 1 ∨ n = 2 ∨ n = 3 ∨ n = 4 ∨ n = 5 ∨ n = 6 ∨ n = 7 ∨ n = 8 := by omega
  clear h1 h8
  rcases h with rfl | rfl | rfl | rfl | rfl | rfl | rfl | rfl <;> (refine Eq.trans (b := Result.ok _ _) ?_ rfl; kernel_rfl)
theorem make_known (n : Nat) (h1 : 1 ≤ n) (h8 : n ≤ 8) (w : World) : (Instr.makeSlice 62 (.int .i64 (n : Int)) (.int .i64 (n : Int))).run Tryz.prog w = .ok (.slice (some ⟨w.heap.size, 0, none⟩) n n) (w.alloc (.cells ((List.replicate n (none : Option Kn)).flatMap encKb).toArray 64)) := by
  have h : n = 1 ∨ n = 2 ∨ n = 3 ∨ n = 4 ∨ n = 5 ∨ n = 6 ∨ n = 7 ∨ n = 8 := by omega
  clear h1 h8
  rcases h with rfl | rfl | rfl | rfl | rfl | rfl | rfl | rfl <;> (refine Eq.trans (b := Result.ok _ _) ?_ rfl; kernel_rfl)
theorem Blk.ne {w : World} {g h : Nat} {t u : TypeId} {cs ds : Array Value} (h1 : Blk w g t cs) (h2 : Blk w h u ds) (htu : t ≠ u) : g ≠ h := by
  intro e
  subst e
  unfold Blk at h1 h2
  rw [h1] at h2
  cases h2
  exact htu rfl
theorem own_far {w w' : World} {a b B e size n : Nat} {v : Value} {xs : List Value} (h : w.ownsRow B e size v n xs) (ho : Only a b w w') (ha : ∀ k, v.ownBlock = some k → k ≠ a) (hb : ∀ k, v.ownBlock = some k → k ≠ b) : w'.ownsRow B e size v n xs :=
  ⟨h.1, h.2.imp id fun ⟨g, cap, cur, e1, hg, hgg, rest⟩ => ⟨g, cap, cur, e1, hg, (ho.block g (Array.getElem?_eq_some_iff.1 hgg).1 (ha g (by rw [e1]; rfl)) (hb g (by rw [e1]; rfl))).trans hgg, rest⟩⟩
def rnF (A : Option Addr) (n c qb z : Nat) : Nat → Value → World → Prop
  | 0, x, _ => x = .pointer (some ⟨qb, 5, none⟩)
  | 1, x, _ => x = .slice A n c
  | 2, x, _ => x = .int .i64 (n : Int)
  | 3, x, W => ∃ b : Nat, x = .slice (some ⟨b, 0, none⟩) n n ∧ z ≤ b ∧ Blk W b 4 ((List.replicate n (none : Option Kn)).flatMap encB).toArray
  | 4, x, _ => x = .pointer (some ⟨qb, 5, none⟩)
  | 5, x, _ => x = .slice A n c
  | 6, x, _ => x = .int .i64 (n : Int)
  | 7, x, W => ∃ b : Nat, x = .slice (some ⟨b, 0, none⟩) n n ∧ z ≤ b ∧ Blk W b 64 ((List.replicate n (none : Option Kn)).flatMap encKb).toArray
  | 8, x, W => ∃ b b2 : Nat, x = .agg #[.slice (some ⟨b, 0, none⟩) n n, .slice (some ⟨b2, 0, none⟩) n n, .bool false, .int .i64 0, .int .i64 0, .int .i64 0, .int .i64 0, .int .i64 0, .int .i64 0] ∧ z ≤ b ∧ z ≤ b2 ∧ Blk W b 4 ((List.replicate n (none : Option Kn)).flatMap encB).toArray ∧ Blk W b2 64 ((List.replicate n (none : Option Kn)).flatMap encKb).toArray
  | 9, x, W => ∃ g b b2 : Nat, x = .pointer (some ⟨g, 0, none⟩) ∧ z ≤ g ∧ z ≤ b ∧ z ≤ b2 ∧ Mind W g b b2 n (List.replicate n none) none
  | 10, x, W => ∃ g b b2 : Nat, x = .pointer (some ⟨g, 0, none⟩) ∧ z ≤ g ∧ z ≤ b ∧ z ≤ b2 ∧ Mind W g b b2 n (List.replicate n none) none
  | _, _, _ => True
def rnFr (s : Sch) (A A' : Option Addr) (n m c c' qb : Nat) (v : Nat → Value) : Act := ⟨#[.agg #[.int .i64 s.start, .int .i64 s.loc, .int .i64 s.ppb, .int .i64 s.liars, .int .i64 s.aim, .slice A n c, .slice A' m c'], .pointer (some ⟨qb, 0, none⟩), .slice none 0 0, .int .i64 0, .int .i64 0, v 5, undef, undef, undef, undef, undef, undef, undef, undef, .agg #[.int .i64 s.start, .int .i64 s.loc, .int .i64 s.ppb, .int .i64 s.liars, .int .i64 s.aim, .slice A n c, .slice A' m c'], .int .i64 0, .int .i64 0, .bool false, undef, v 19, v 20, v 21, v 22, v 23, v 24, v 25, v 26, v 27, v 28, undef, undef, undef, undef, undef, undef, undef, undef, undef, undef, undef, undef, undef, undef, undef, undef, undef, undef, undef, undef, undef, undef, undef, undef, undef, undef, undef, undef, undef, undef, undef, undef, undef, undef, undef, undef, undef, undef, undef, undef, undef, undef, undef, undef, undef, undef, undef, undef, undef, undef, undef, undef, undef, undef, undef, undef, undef, undef, undef, undef, undef, undef, undef, undef, undef, undef, undef, undef, undef, undef, undef, undef, undef, undef, undef, undef, undef, undef, undef, undef, undef, undef, undef, undef, undef, undef, undef, undef, undef, undef, undef, undef, undef, undef, undef, undef, undef, undef, undef, undef, undef, undef, undef, undef, undef, undef, undef, undef, undef, undef, undef, undef, undef, undef, undef, undef, undef, undef, undef, undef, undef, undef], []⟩
theorem rnF_keep {A : Option Addr} {n c qb z : Nat} {j : Nat} {x : Value} {w w' : World} (h : rnF A n c qb z j x w) (hb : Below w.heap.size w w') : rnF A n c qb z j x w' := by
  unfold rnF at *
  split at h
  all_goals first
    | exact h
    | trivial
    | (obtain ⟨b, h1, h2, h3⟩ := h; exact ⟨b, h1, h2, h3.keep hb⟩)
    | (obtain ⟨b, b2, h1, h2, h3, h4, h5⟩ := h; exact ⟨b, b2, h1, h2, h3, h4.keep hb, h5.keep hb⟩)
    | (obtain ⟨g, b, b2, h1, h2, h3, h4, h5⟩ := h; exact ⟨g, b, b2, h1, h2, h3, h4, h5.keep hb⟩)

set_option maxHeartbeats 8000000 in
set_option maxRecDepth 100000 in
theorem rRun_ok (s : Sch) (A A' : Option Addr) (c c' : Nat) (w : World) (B : Nat) (hB : B ≤ w.heap.size) (he : RdL encI 1 w B A s.errs.length s.errs) (hs : RdL encStp 11 w B A' s.steps.length s.steps) :
    Calls Tryz.prog 10 #[vSch s A c A' c'] w (RunPost s w) := by
  obtain ⟨i0, hi, hz0, hz1, hz2⟩ := info_parts infoRp
  obtain ⟨R, hR0⟩ : ∃ R, s.run = R := ⟨_, rfl⟩
  obtain ⟨q, hq0⟩ : ∃ q, s.code = q := ⟨_, rfl⟩
  have C := Lib.hid fun (W : World) (hb : Below w.heap.size w W) => rCheck_ok s A A' c c' W B (Nat.le_trans hB hb.size) (he.below hb hB) (hs.below hb hB)
  have P : ∀ e w', RunPost s w e w' ↔ ∃ A c, e = .returned (.tuple #[.slice A R.length c, .int .i64 q]) ∧ RdL encRp 11 w' w'.heap.size A R.length R ∧ Below w.heap.size w w' := fun e w' => by unfold RunPost; rw [hR0, hq0]
  have P' := Lib.hid P
  clear P
  generalize hP : RunPost s w = PP at *
  clear hP
  have hst' := Lib.hid (show q = 0 → s.ok from fun h => Sch.code_ok (hq0.trans h))
  have hR := Lib.hid hR0
  have he' := Lib.hid he
  have hs' := Lib.hid hs
  have hq := Lib.hid hq0
  clear hR0 he hs hq0
  simp only [hq.out] at C
  by_cases hq1 : q = 0
  · subst hq1
    have ok := Lib.hid (hst'.out rfl)
    have hRR := Lib.hid (show runL s s.steps s.init = R by rw [← hR.out]; unfold Sch.run; rw [if_pos hq.out])
    have n0 := ok.out.n0
    have n8 := ok.out.n1
    have hm64 := ok.out.m
    have hg0 := Lib.hid (s.init_good ok.out)
    clear hst' hR hq
    dsimp only [vSch] at *
    generalize hn : s.errs.length = n at *
    have hn2 := Lib.hid hn
    generalize hm : s.steps.length = m at *
    have hm2 := Lib.hid hm
    have hsrc0 := Lib.hid (show s.init.src = List.replicate n none by rw [← hn]; rfl)
    clear hn hm
    go_enter Tryz.func10, Tryz.ntmps10
    go_wp2_with fail
    refine (C.out _ (below_alloc (Below.refl _ _) _)).mono ?_
    rintro e w1 ⟨rfl, hb1⟩
    have G0 := Lib.hid ((Blk.new w _ _).keep hb1)
    have hB1 := Lib.hid (below_then (below_alloc (Below.refl _ _) _) hb1)
    have hw1 : w.heap.size < w1.heap.size := by have := hb1.size; simp at this; omega
    clear hb1 C
    go_wp2_with fail
    refine wp_region_all (by kernel_rfl) (rnFr s A A' n m c c' w.heap.size) (fun _ => undef) (by rfl) (rnF A n c w.heap.size w1.heap.size) (fun _ W => Below w1.heap.size w1 W) (fun _ W1 W2 => Below W1.heap.size W1 W2) (by kernel_rfl) (by kernel_rfl) ?hX0 (fun _ _ _ _ _ _ h k => rnF_keep h k) ?hdst ?hop ?hend
    case hX0 => exact below_drew (Below.refl _ _)
    case hdst =>
      intro i o hi ho
      have hi' : i < 11 := hi
      obtain rfl | rfl | rfl | rfl | rfl | rfl | rfl | rfl | rfl | rfl | rfl : i = 0 ∨ i = 1 ∨ i = 2 ∨ i = 3 ∨ i = 4 ∨ i = 5 ∨ i = 6 ∨ i = 7 ∨ i = 8 ∨ i = 9 ∨ i = 10 := by omega
      all_goals
        obtain rfl := Option.some.inj ho
        exact ⟨rfl, fun _ _ => rfl⟩
    case hop =>
      intro i o L v W hi ho hu hC hX hd K hK
      have hi' : i < 11 := hi
      clear hi
      obtain rfl | rfl | rfl | rfl | rfl | rfl | rfl | rfl | rfl | rfl | rfl : i = 0 ∨ i = 1 ∨ i = 2 ∨ i = 3 ∨ i = 4 ∨ i = 5 ∨ i = 6 ∨ i = 7 ∨ i = 8 ∨ i = 9 ∨ i = 10 := by omega
      · obtain rfl := Option.some.inj ho
        simp only [rnFr] at hK ⊢
        go_simp
        exact hK _ _ hX (Below.refl _ _) rfl
      · obtain rfl := Option.some.inj ho
        have h0 : (v 19) = .pointer (some ⟨w.heap.size, 5, none⟩) := hd ⟨0, .data⟩ (by simp) rfl _ 19 rfl rfl
        have c5 : W.cell? ⟨w.heap.size, 5, none⟩ = some (.slice A n c) := cell_keep hX (G0.out.cell 5)
        simp only [rnFr, h0] at hK ⊢
        go_simp
        exact hK _ _ hX (Below.refl _ _) rfl
      · obtain rfl := Option.some.inj ho
        have h1 : (v 20) = .slice A n c := hd ⟨1, .data⟩ (by simp) rfl _ 20 rfl rfl
        simp only [rnFr, h1] at hK ⊢
        go_simp
        exact hK _ _ hX (Below.refl _ _) rfl
      · obtain rfl := Option.some.inj ho
        have h2 : (v 21) = .int .i64 (n : Int) := hd ⟨2, .data⟩ (by simp) rfl _ 21 rfl rfl
        have hmk := make_bool n n0 n8 W
        have hzl : w1.heap.size ≤ W.heap.size := hX.size
        simp only [rnFr, h2] at hK ⊢
        go_simp
        exact hK _ _ (below_alloc hX _) (below_alloc (Below.refl _ _) _) ⟨W.heap.size, rfl, hzl, Blk.new _ _ _⟩
      · obtain rfl := Option.some.inj ho
        simp only [rnFr] at hK ⊢
        go_simp
        exact hK _ _ hX (Below.refl _ _) rfl
      · obtain rfl := Option.some.inj ho
        have h4 : (v 23) = .pointer (some ⟨w.heap.size, 5, none⟩) := hd ⟨4, .data⟩ (by simp) rfl _ 23 rfl rfl
        have c5 : W.cell? ⟨w.heap.size, 5, none⟩ = some (.slice A n c) := cell_keep hX (G0.out.cell 5)
        simp only [rnFr, h4] at hK ⊢
        go_simp
        exact hK _ _ hX (Below.refl _ _) rfl
      · obtain rfl := Option.some.inj ho
        have h5 : (v 24) = .slice A n c := hd ⟨5, .data⟩ (by simp) rfl _ 24 rfl rfl
        simp only [rnFr, h5] at hK ⊢
        go_simp
        exact hK _ _ hX (Below.refl _ _) rfl
      · obtain rfl := Option.some.inj ho
        have h6 : (v 25) = .int .i64 (n : Int) := hd ⟨6, .data⟩ (by simp) rfl _ 25 rfl rfl
        have hmk := make_known n n0 n8 W
        have hzl : w1.heap.size ≤ W.heap.size := hX.size
        simp only [rnFr, h6] at hK ⊢
        go_simp
        exact hK _ _ (below_alloc hX _) (below_alloc (Below.refl _ _) _) ⟨W.heap.size, rfl, hzl, Blk.new _ _ _⟩
      · obtain rfl := Option.some.inj ho
        have h3 : ∃ b : Nat, (v 22) = .slice (some ⟨b, 0, none⟩) n n ∧ w1.heap.size ≤ b ∧ Blk W b 4 ((List.replicate n (none : Option Kn)).flatMap encB).toArray := hd ⟨3, .data⟩ (by simp) rfl _ 22 rfl rfl
        have h7 : ∃ b : Nat, (v 26) = .slice (some ⟨b, 0, none⟩) n n ∧ w1.heap.size ≤ b ∧ Blk W b 64 ((List.replicate n (none : Option Kn)).flatMap encKb).toArray := hd ⟨7, .data⟩ (by simp) rfl _ 26 rfl rfl
        obtain ⟨b, h3, x1, x2⟩ := h3
        obtain ⟨b2, h7, x3, x4⟩ := h7
        simp only [rnFr, h3, h7] at hK ⊢
        go_simp
        exact hK _ _ hX (Below.refl _ _) ⟨b, b2, rfl, x1, x3, x2, x4⟩
      · obtain rfl := Option.some.inj ho
        have h8 : ∃ b b2 : Nat, (v 27) = .agg #[.slice (some ⟨b, 0, none⟩) n n, .slice (some ⟨b2, 0, none⟩) n n, .bool false, .int .i64 0, .int .i64 0, .int .i64 0, .int .i64 0, .int .i64 0, .int .i64 0] ∧ w1.heap.size ≤ b ∧ w1.heap.size ≤ b2 ∧ Blk W b 4 ((List.replicate n (none : Option Kn)).flatMap encB).toArray ∧ Blk W b2 64 ((List.replicate n (none : Option Kn)).flatMap encKb).toArray := hd ⟨8, .data⟩ (by simp) rfl _ 27 rfl rfl
        obtain ⟨b, b2, h8, x1, x2, x3, x4⟩ := h8
        have hzl : w1.heap.size ≤ W.heap.size := hX.size
        simp only [rnFr, h8] at hK ⊢
        go_simp
        have fB := below_alloc (Below.refl W.heap.size W) (.cells (mdC n b b2 none).toArray 66)
        exact hK _ _ (below_alloc hX _) fB ⟨W.heap.size, b, b2, rfl, hzl, x1, x2, ⟨Blk.new _ _ _, x3.keep fB, x4.keep fB⟩⟩
      · obtain rfl := Option.some.inj ho
        have h9 : ∃ g b b2 : Nat, (v 28) = .pointer (some ⟨g, 0, none⟩) ∧ w1.heap.size ≤ g ∧ w1.heap.size ≤ b ∧ w1.heap.size ≤ b2 ∧ Mind W g b b2 n (List.replicate n none) none := hd ⟨9, .data⟩ (by simp) rfl _ 28 rfl rfl
        obtain ⟨g, b, b2, h9, x1, x2, x3, x4⟩ := h9
        simp only [rnFr, h9] at hK ⊢
        go_simp
        exact hK _ _ hX (Below.refl _ _) ⟨g, b, b2, rfl, x1, x2, x3, x4⟩
    case hend =>
      intro L v W hX hall hF
      have h10 : ∃ g b b2 : Nat, (v 5) = .pointer (some ⟨g, 0, none⟩) ∧ w1.heap.size ≤ g ∧ w1.heap.size ≤ b ∧ w1.heap.size ≤ b2 ∧ Mind W g b b2 n (List.replicate n none) none := hF 10 _ 5 rfl rfl
      obtain ⟨g, gs, gb, h10, x1, x2, x3, M0⟩ := h10
      have d1 := M0.b.ne M0.s (by decide)
      have d2 := M0.b.ne M0.k (by decide)
      have d3 := M0.s.ne M0.k (by decide)
      have G1 := Lib.hid (G0.out.keep hX)
      have hBW := Lib.hid (below_then hB1.out hX)
      have M1 := Lib.hid M0
      have zg := M0.b.lt
      have zs := M0.s.lt
      have zk := M0.k.lt
      clear hF hall hX G0 M0
      obtain ⟨z0, z1, z2, z3, z4, z5, z6⟩ := blk7 G1.out
      simp only [rnFr, h10]
      have zq := G1.out.lt
      go_wp2_with fail
      go_quiet (fail)
      obtain ⟨W4, hW4⟩ : ∃ W4, W4 = (W.alloc (.cells #[.int .i64 s.aim, .int .i64 1000000, .bool false, .bool false, .int .i64 0, .int .i64 0] 53)).drewN nq := ⟨_, rfl⟩
      have BB := Lib.hid (show Below W.heap.size W W4 by rw [hW4]; exact below_drewN (below_alloc (Below.refl _ _) _) _)
      have M4 := Lib.hid (hsrc0.out ▸ M1.out.keep BB.out)
      have C4 := Lib.hid (show Blk W4 W.heap.size 53 #[.int .i64 s.aim, .int .i64 1000000, .bool false, .bool false, .int .i64 0, .int .i64 0] by rw [hW4]; exact (Blk.new _ _ _).drewN _)
      have G4 := Lib.hid (G1.out.keep BB.out)
      have B4 := Lib.hid (below_then hBW.out BB.out)
      have zW : W4.heap.size = W.heap.size + 1 := by rw [hW4]; simp
      generalize hgc : W.heap.size = gc at *
      have hgc2 : w1.heap.size ≤ gc := by have := zg; omega
      rw [← hW4]
      clear hW4 G1 hBW M1 BB z0 z1 z2 z3 z4 z5 z6 zq hgc
      go_wp2_with fail
      go_loopg [7, 8, 9, 10] m (fun gg s7 s8 vo s10 wr => ∃ (k : Nat) (out : List Rp) (q : Pl), k ≤ m ∧ m - k ≤ gg ∧ s10 = .int .i64 k ∧ s7 = .int .i64 q.t ∧ s8 = .int .i64 q.r ∧ Hid (out.length = k) ∧ Hid (q.good s k) ∧ Hid (Mind wr g gs gb n q.src q.own) ∧ Hid (Blk wr gc 53 #[.int .i64 q.ck.aim, .int .i64 q.ck.rate, .bool q.ck.set, .bool q.ck.held, .int .i64 q.ck.a, .int .i64 q.ck.shown]) ∧
        Hid (wr.ownsRow W4.heap.size 55 11 vo k (out.flatMap encRp)) ∧ Hid (Below w.heap.size w wr) ∧ Hid (Blk wr w.heap.size 25 #[.int .i64 s.start, .int .i64 s.loc, .int .i64 s.ppb, .int .i64 s.liars, .int .i64 s.aim, .slice A n c, .slice A' m c']) ∧ Hid (W4.heap.size ≤ wr.heap.size) ∧ Hid (out ++ runL s (s.steps.drop k) q = R))
      case atStart => exact ⟨0, [], s.init, Nat.zero_le _, by omega, rfl, rfl, rfl, Lib.hid rfl, hg0, M4, C4, Lib.hid (World.ownsRow_nil _ _ _ _), B4, G4, Lib.hid (Nat.le_refl _), Lib.hid (by simpa using hRR.out)⟩
      case round =>
        obtain ⟨k, out, q, hk, hgg, rfl, rfl, rfl, hlen, hq', Mr, Cr, ho, hbr, Gr, hzr, hRk⟩ := hrel
        have hzr' := hzr.out
        by_cases hlt : k < m
        · obtain ⟨b, off, x, rfl, hbB, hz, hd, c0, c1, c2, c3, c4, c5, c6, c7, c8, c9, c10⟩ := (hs'.out.below hbr.out hB).getStp hlt
          have hx := ok.out.st x (List.mem_of_getElem? hz)
          have hx' := Lib.hid hx
          have x0 := hx.s0
          have x1 := hx.s1
          obtain ⟨i, hi2⟩ : ∃ i : Nat, x.src = i := ⟨x.src.toNat, by omega⟩
          have hin : i < n := by have := x1; rw [hn2.out] at this; omega
          obtain ⟨b', off', e, hA, hbB', hze, hde, ce⟩ := (he'.out.below hbr.out hB).getI hin
          have hgD : s.errs.getD x.src.toNat 0 = e := by rw [List.getD_eq_getElem?_getD, hi2, Int.toNat_natCast, hze]; rfl
          have he0 := ok.out.e e (List.mem_of_getElem? hze)
          have hmg := hq'.out.sm (by omega) hx he0.1 he0.2
          have hmg' := Lib.hid hmg
          have AT := fun W => rAt_ok (q.sm x e) s.ppb W hmg ok.out.p0 ok.out.p1
          have hmv := Lib.hid (hq'.out.moved hx)
          have hhd := Lib.hid (by have := hq'.out.heard ok.out (by omega) hx (by rw [hgD]; exact he0.1) (by rw [hgD]; exact he0.2); exact this)
          have hHD := Lib.hid (show q.heard s x = if (q.sm x e).code s.ppb = 0 then (q.moved x).hear i (q.sm x e).lo ((q.sm x e).hi s.ppb) s.ppb else q.moved x by unfold Pl.heard; rw [hgD, hi2, Int.toNat_natCast])
          have hRx : Hid (out ++ ((((q.heard s x).merged s).seen.rp) :: runL s (s.steps.drop (k + 1)) ((q.heard s x).merged s).seen) = R) := Lib.hid (by rw [← hRk.out, hd]; rfl)
          have hxl := Lib.hid (show (q.sm x e).code s.ppb = 0 → okS (q.sm x e).lo ((q.sm x e).hi s.ppb) = true from fun h => by
            have hb := Sm.hi_le hmg ok.out.p0 ok.out.p1
            unfold Sm.code at h
            split at h
            · omega
            · split at h
              · omega
              · exact okS_mk (by omega) (by omega) (by omega))
          obtain ⟨b1, b2, b3, b4, b5, b6, b7, b8⟩ := hx.bounds
          have v2 := hx.w2
          have v3 := hx.w3
          have t0 := hq'.out.t0
          have t1 := hq'.out.t1
          have r0 := hq'.out.r0
          have r1 := hq'.out.r1
          have e1 : IntKind.i64.wrap (q.t + x.tru) = q.t + x.tru := IntWalk.i64_in _ (by omega)
          have e2 : IntKind.i64.wrap (q.r + x.loc) = q.r + x.loc := IntWalk.i64_in _ (by omega)
          have e3 : IntKind.i64.wrap (q.t + x.tru + x.out) = q.t + x.tru + x.out := IntWalk.i64_in _ (by omega)
          have e4 : IntKind.i64.wrap (q.r + x.loc + x.outL) = q.r + x.loc + x.outL := IntWalk.i64_in _ (by omega)
          have e5 : IntKind.i64.wrap (q.t + x.tru + x.out + x.w2) = q.t + x.tru + x.out + x.w2 := IntWalk.i64_in _ (by omega)
          have e6 : IntKind.i64.wrap (q.t + x.tru + x.out + x.hold) = q.t + x.tru + x.out + x.hold := IntWalk.i64_in _ (by omega)
          have e7 : IntKind.i64.wrap (q.r + x.loc + x.outL + x.holdL) = q.r + x.loc + x.outL + x.holdL := IntWalk.i64_in _ (by omega)
          have e8 : IntKind.i64.wrap (q.t + x.tru + x.out + x.hold + x.w3) = q.t + x.tru + x.out + x.hold + x.w3 := IntWalk.i64_in _ (by omega)
          have e9 : IntKind.i64.wrap (q.t + x.tru + x.out + x.hold + x.back) = q.t + x.tru + x.out + x.hold + x.back := IntWalk.i64_in _ (by omega)
          have e10 : IntKind.i64.wrap (q.r + x.loc + x.outL + x.holdL + x.backL) = q.r + x.loc + x.outL + x.holdL + x.backL := IntWalk.i64_in _ (by omega)
          obtain ⟨z0, z1, z2, z3, z4, z5, z6⟩ := blk7 Gr.out
          have zGr := Gr.out.lt
          have j0 : (0 : Int) ≤ (i : Int) := by omega
          have j1 : (i : Int) < (n : Int) := by omega
          have hbw : b < wr.heap.size := by have := hbr.out.size; omega
          have hbw' : b' < wr.heap.size := by have := hbr.out.size; omega
          subst hA
          clear hd hz hze hde hgD v2 v3 t0 t1 r0 r1 b1 b2 b3 b4 b5 b6 b7 b8 hmg hx he0 x0 x1 hRk
          go_wp2_with fail
          obtain ⟨W5, hW5⟩ : ∃ W5, W5 = (wr.alloc (.cells #[.int .i64 (i : Int), .int .i64 x.tru, .int .i64 x.loc, .int .i64 x.out, .int .i64 x.outL, .int .i64 x.hold, .int .i64 x.holdL, .int .i64 x.back, .int .i64 x.backL, .int .i64 x.w2, .int .i64 x.w3] 45)).alloc (.cells #[.int .i64 0, .int .i64 0, .int .i64 0, .int .i64 0, .int .i64 e] 68) := ⟨_, rfl⟩
          have B5 := Lib.hid (show Below wr.heap.size wr W5 by rw [hW5]; exact below_alloc (below_alloc (Below.refl _ _) _) _)
          have X5 := Lib.hid (show Blk W5 wr.heap.size 45 #[.int .i64 (i : Int), .int .i64 x.tru, .int .i64 x.loc, .int .i64 x.out, .int .i64 x.outL, .int .i64 x.hold, .int .i64 x.holdL, .int .i64 x.back, .int .i64 x.backL, .int .i64 x.w2, .int .i64 x.w3] by rw [hW5]; exact (Blk.new _ _ _).alloc _)
          have Y5 := Lib.hid (show Blk W5 (wr.heap.size + 1) 68 #[.int .i64 0, .int .i64 0, .int .i64 0, .int .i64 0, .int .i64 e] by rw [hW5]; exact Blk.new1 _ _ _ _)
          have z5s : W5.heap.size = wr.heap.size + 2 := by rw [hW5]; simp
          have O5 := Lib.hid (show W5.ownsRow W4.heap.size 55 11 u9 k (out.flatMap encRp) by rw [hW5]; exact (ho.out.alloc _).alloc _)
          rw [← hW5]
          clear hW5 c0 c1 c2 c3 c4 c5 c6 c7 c8 c9 c10 ce z0 z1 z2 z3 z4 z5 z6
          obtain ⟨c0, c1, c2, c3, c4, c5, c6, c7, c8, c9, c10⟩ := blk11 X5.out
          obtain ⟨y0, y1, y2, y3, y4⟩ := blk5 Y5.out
          have f0 := Y5.out.frozen 0
          have f1 := Y5.out.frozen 1
          have f2 := Y5.out.frozen 2
          have f3 := Y5.out.frozen 3
          have hxy : wr.heap.size ≠ wr.heap.size + 1 := by omega
          have hyx : wr.heap.size + 1 ≠ wr.heap.size := by omega
          have s2 : W5.cell? ⟨w.heap.size, 2, none⟩ = some (.int .i64 s.ppb) := (Gr.out.keep B5.out).cell 2
          have hyw : w.heap.size ≠ wr.heap.size + 1 := by omega
          have hly : wr.heap.size + 1 < W5.heap.size := by omega
          go_quiet (fail)
          obtain ⟨n1, rfl⟩ : ∃ n1, n1 = nq := ⟨_, rfl⟩
          go_wp2_with fail
          go_quiet (fail)
          obtain ⟨n2, rfl⟩ : ∃ n2, n2 = nq := ⟨_, rfl⟩
          go_wp2_with fail
          go_quiet (fail)
          obtain ⟨n3, rfl⟩ : ∃ n3, n3 = nq := ⟨_, rfl⟩
          go_wp2_with fail
          go_quiet (fail)
          obtain ⟨n4, rfl⟩ : ∃ n4, n4 = nq := ⟨_, rfl⟩
          go_wp2_with fail
          obtain ⟨W6, hW6⟩ : ∃ W6, W6 = ((((((((W5.drewN n1).setCell ⟨wr.heap.size + 1, 0, none⟩ (.int .i64 (q.r + x.loc))).drewN n2).setCell ⟨wr.heap.size + 1, 1, none⟩ (.int .i64 (q.t + x.tru + x.out + x.w2))).drewN n3).setCell ⟨wr.heap.size + 1, 2, none⟩ (.int .i64 (q.t + x.tru + x.out + x.hold + x.w3))).drewN n4).setCell ⟨wr.heap.size + 1, 3, none⟩ (.int .i64 (q.r + x.loc + x.outL + x.holdL + x.backL))) := ⟨_, rfl⟩
          have yy0 : Blk ((W5.drewN n1).setCell ⟨wr.heap.size + 1, 0, none⟩ (.int .i64 (q.r + x.loc))) (wr.heap.size + 1) 68 #[.int .i64 (q.r + x.loc), .int .i64 0, .int .i64 0, .int .i64 0, .int .i64 e] := (Y5.out.drewN _).set 0 _
          have yy1 : Blk ((((W5.drewN n1).setCell ⟨wr.heap.size + 1, 0, none⟩ (.int .i64 (q.r + x.loc))).drewN n2).setCell ⟨wr.heap.size + 1, 1, none⟩ (.int .i64 (q.t + x.tru + x.out + x.w2))) (wr.heap.size + 1) 68 #[.int .i64 (q.r + x.loc), .int .i64 (q.t + x.tru + x.out + x.w2), .int .i64 0, .int .i64 0, .int .i64 e] := (yy0.drewN _).set 1 _
          have yy2 : Blk ((((((W5.drewN n1).setCell ⟨wr.heap.size + 1, 0, none⟩ (.int .i64 (q.r + x.loc))).drewN n2).setCell ⟨wr.heap.size + 1, 1, none⟩ (.int .i64 (q.t + x.tru + x.out + x.w2))).drewN n3).setCell ⟨wr.heap.size + 1, 2, none⟩ (.int .i64 (q.t + x.tru + x.out + x.hold + x.w3))) (wr.heap.size + 1) 68 #[.int .i64 (q.r + x.loc), .int .i64 (q.t + x.tru + x.out + x.w2), .int .i64 (q.t + x.tru + x.out + x.hold + x.w3), .int .i64 0, .int .i64 e] := (yy1.drewN _).set 2 _
          have yy3 : Blk ((((((((W5.drewN n1).setCell ⟨wr.heap.size + 1, 0, none⟩ (.int .i64 (q.r + x.loc))).drewN n2).setCell ⟨wr.heap.size + 1, 1, none⟩ (.int .i64 (q.t + x.tru + x.out + x.w2))).drewN n3).setCell ⟨wr.heap.size + 1, 2, none⟩ (.int .i64 (q.t + x.tru + x.out + x.hold + x.w3))).drewN n4).setCell ⟨wr.heap.size + 1, 3, none⟩ (.int .i64 (q.r + x.loc + x.outL + x.holdL + x.backL))) (wr.heap.size + 1) 68 #[.int .i64 (q.r + x.loc), .int .i64 (q.t + x.tru + x.out + x.w2), .int .i64 (q.t + x.tru + x.out + x.hold + x.w3), .int .i64 (q.r + x.loc + x.outL + x.holdL + x.backL), .int .i64 e] := (yy2.drewN _).set 3 _
          have B6 := Lib.hid (show Below wr.heap.size wr W6 by rw [hW6]; repeat (with_reducible first | exact B5.out | refine below_set ?_ (by omega) _ | refine below_drewN ?_ _))
          have X6 := Lib.hid (show Blk W6 wr.heap.size 45 #[.int .i64 (i : Int), .int .i64 x.tru, .int .i64 x.loc, .int .i64 x.out, .int .i64 x.outL, .int .i64 x.hold, .int .i64 x.holdL, .int .i64 x.back, .int .i64 x.backL, .int .i64 x.w2, .int .i64 x.w3] by rw [hW6]; exact (((((((X5.out.drewN _).far (p := ⟨_, _, _⟩) hxy _).drewN _).far (p := ⟨_, _, _⟩) hxy _).drewN _).far (p := ⟨_, _, _⟩) hxy _).drewN _).far (p := ⟨_, _, _⟩) hxy _)
          have Y6 := Lib.hid (show Blk W6 (wr.heap.size + 1) 68 _ by rw [hW6]; exact yy3)
          have O6 := Lib.hid (show W6.ownsRow W4.heap.size 55 11 u9 k (out.flatMap encRp) by
            refine own_below ho.out B6.out)
          rw [← hW6]
          clear hW6 yy0 yy1 yy2 yy3 c0 c1 c2 c3 c4 c5 c6 c7 c8 c9 c10 y0 y1 y2 y3 y4 f0 f1 f2 f3 s2 X5 Y5 O5 B5 e1 e2 e3 e4 e5 e6 e7 e8 e9 e10
          have M6 := Lib.hid (Mr.out.keep B6.out)
          have C6 := Lib.hid (Cr.out.keep B6.out)
          have G6 := Lib.hid (Gr.out.keep B6.out)
          have Bw6 := Lib.hid (below_then hbr.out B6.out)
          have dgs : gs ≠ gc := M6.out.s.ne C6.out (by decide)
          have dgb : gb ≠ gc := M6.out.k.ne C6.out (by decide)
          have dgg : g ≠ gc := M6.out.b.ne C6.out (by decide)
          have hqh := Lib.hid (show (q.heard s x).own = q.own ∧ (q.heard s x).r = q.r + x.loc + x.outL + x.holdL + x.backL ∧ (q.heard s x).t = q.t + x.tru + x.out + x.hold + x.back ∧ (q.heard s x).ck = q.ck by rw [hHD.out]; split <;> exact ⟨rfl, rfl, rfl, rfl⟩)
          have HH := fun hM => rhear_ok i q.src q.own g gs gb n (q.sm x e) s.ppb _ _ _ W6 hM (by rw [hq'.out.n, hn2.out]) hin n8 d1 d2 d3 AT (fun h => by rw [if_pos h, if_pos h]; exact hxl.out h) (show okT (q.moved x).r = true from okT_mk (by have := hmv.out.r0; omega) (by have := hmv.out.r1; omega)) ok.out.p0 ok.out.p1 (fun kk hkk => ((hmv.out.src kk (getD_mem (l := q.src) hkk)).at ok.out.p0 ok.out.p1 (by omega) (Int.le_refl _) (by have := hmv.out.r1; omega)).1)
          have hsrcE := Lib.hid (show (if (q.sm x e).code s.ppb = 0 then q.src.set i (takeM (q.src.getD i none) (q.sm x e).t4 (if (q.sm x e).code s.ppb = 0 then (q.sm x e).lo else 0) (if (q.sm x e).code s.ppb = 0 then (q.sm x e).hi s.ppb else 0) s.ppb) else q.src) = (q.heard s x).src by
            rw [hHD.out]
            by_cases hc : (q.sm x e).code s.ppb = 0
            · simp only [if_pos hc]; rfl
            · simp only [if_neg hc]; rfl)
          refine (HH M6.out).mono ?_
          rintro e' w7 ⟨rfl, M7, Oh⟩
          rw [hsrcE.out] at M7
          have M7' := Lib.hid M7
          have Oh' := Lib.hid Oh
          clear HH M7 Oh hsrcE hHD AT hxl hmg' M6 hmv
          obtain ⟨qo, qr, qt, qc⟩ := hqh.out
          generalize q.heard s x = qh at *
          have X7 := Lib.hid (X6.out.keepO Oh'.out (by omega) (by omega))
          have C7 := Lib.hid (C6.out.keepO Oh'.out (Ne.symm dgs) (Ne.symm dgb))
          have G7 := Lib.hid (G6.out.keepO Oh'.out (by omega) (by omega))
          have O7 := Lib.hid (own_only O6.out Oh'.out (by omega) (by omega))
          have Bw7 := Lib.hid (Only.below Bw6.out Oh'.out (by omega) (by omega))
          have zw7 : wr.heap.size + 2 ≤ w7.heap.size := by have := Oh'.out.size; have := Y6.out.lt; omega
          clear Oh' X6 C6 G6 O6 Bw6 B6 Y6
          have M8 : Mind w7 g gs gb n qh.src qh.own := by rw [qo]; exact M7'.out
          have hnows := nows_ok hhd.out ok.out (by omega)
          have hok9 : (agreeM (nowL qh.r (qh.src.filterMap id)) s.liars).2.2 = 0 → okS (agreeM (nowL qh.r (qh.src.filterMap id)) s.liars).1 (agreeM (nowL qh.r (qh.src.filterMap id)) s.liars).2.1 = true := fun hc => by
            obtain ⟨b1, b2, b3⟩ := agree_bounds _ _ _ _ hnows hc
            exact okS_mk (Int.le_trans (by omega) b1) b2 (Int.le_trans b3 (by omega))
          have TH := rthink_ok qh.src qh.own g gs gb n qh.r s.ppb s.liars w7 M8 (by rw [hhd.out.n, hn2.out]) n8 d1 d2 d3 (fun kk hkk => ((hhd.out.src kk hkk).at ok.out.p0 ok.out.p1 (by omega) (Int.le_refl _) (by have := hhd.out.r1; omega)).1) ok.out.f0 (by have := ok.out.f1; rw [hn2.out] at this; omega) (okT_mk (by have := hhd.out.r0; omega) (by have := hhd.out.r1; omega)) ok.out.p0 ok.out.p1 (fun kk hkk => ((hhd.out.own kk hkk).at ok.out.p0 ok.out.p1 (Int.le_refl _) (Int.le_refl _) (by have := hhd.out.r1; omega)).1) hok9
          have hmo : (if (agreeM (nowL qh.r (qh.src.filterMap id)) s.liars).2.2 = 0 then takeM qh.own qh.r (agreeM (nowL qh.r (qh.src.filterMap id)) s.liars).1 (agreeM (nowL qh.r (qh.src.filterMap id)) s.liars).2.1 s.ppb else qh.own) = (qh.merged s).own := by
            unfold Pl.merged Pl.nows
            split <;> rfl
          have hmq : (qh.merged s).src = qh.src ∧ (qh.merged s).r = qh.r ∧ (qh.merged s).t = qh.t ∧ (qh.merged s).ck = qh.ck := by
            unfold Pl.merged
            split <;> exact ⟨rfl, rfl, rfl, rfl⟩
          rw [hmo, qr] at TH
          have TH' := Lib.hid TH
          have hqm := Lib.hid (hhd.out.merged ok.out (by omega))
          have hqs := Lib.hid (hqm.out.seen ok.out (by omega))
          obtain ⟨ms, mr, mt, mc⟩ := hmq
          have ms' := Lib.hid ms
          have mr' := Lib.hid (mr.trans qr)
          have mt' := Lib.hid (mt.trans qt)
          have mc' := Lib.hid (mc.trans qc)
          clear TH hmo hok9 hnows M8 M7' hhd hqh qr qt qc qo ms mr mt mc
          generalize qh.merged s = qm at *
          have s2 : w7.cell? ⟨w.heap.size, 2, none⟩ = some (.int .i64 s.ppb) := G7.out.cell 2
          have s3 : w7.cell? ⟨w.heap.size, 3, none⟩ = some (.int .i64 s.liars) := G7.out.cell 3
          go_wp2_with fail
          refine (TH'.out).mono ?_
          rintro e' w8 ⟨rfl, M8, O8⟩
          have M9 := Lib.hid (show Mind w8 g gs gb n qm.src qm.own by rw [ms'.out]; exact M8)
          have X8 := Lib.hid (X7.out.keepO O8 (by omega) (by omega))
          have C8 := Lib.hid (C7.out.keepO O8 (Ne.symm dgg) (Ne.symm dgg))
          have G8 := Lib.hid (G7.out.keepO O8 (by omega) (by omega))
          have O9 := Lib.hid (own_only O7.out O8 (by omega) (by omega))
          have Bw8 := Lib.hid (Only.below Bw7.out O8 (by omega) (by omega))
          have zw8 : wr.heap.size + 2 ≤ w8.heap.size := by have := O8.size; omega
          clear M8 O8 X7 C7 G7 O7 Bw7 TH' s2 s3 zw7
          have hss := Lib.hid (show qm.seen.src = qm.src by unfold Pl.seen; split <;> rfl)
          have hso := Lib.hid (show qm.seen.own = qm.own by unfold Pl.seen; split <;> rfl)
          have hst := Lib.hid (show qm.seen.t = q.t + x.tru + x.out + x.hold + x.back by rw [← mt'.out]; unfold Pl.seen; split <;> rfl)
          have hsr := Lib.hid (show qm.seen.r = q.r + x.loc + x.outL + x.holdL + x.backL by rw [← mr'.out]; unfold Pl.seen; split <;> rfl)
          have hrow := Lib.hid ho.out.lt
          have zw8g := M9.out.b.lt
          cases how : qm.own with
          | none =>
            have g2 : w8.cell? ⟨g, 2, none⟩ = some (.bool false) := by have := M9.out.b.list_cell 2; rw [how] at this; exact this
            have hsc := Lib.hid (show qm.seen.ck = q.ck by unfold Pl.seen; rw [how]; exact mc'.out)
            have hrp := Lib.hid (show qm.seen.rp = ⟨q.r + x.loc + x.outL + x.holdL + x.backL, q.t + x.tru + x.out + x.hold + x.back, false, 0, 0, ⟨0, 0, false, false, 0, 0⟩⟩ by unfold Pl.seen Pl.rp; rw [how]; dsimp only; rw [how, mr'.out, mt'.out])
            have how' := Lib.hid how
            clear how
            have hsz : (k + 1) * 80 ≤ 140737488355328 := by omega
            go_wp2_with (at_builtin; refine wpList_append_own _ rfl (.tmp 146) (.tmp 148) 35 rfl W4.heap.size 55 i0 _ 11 80 Tryz.underlying35 hi hz0 hz1 hz2 rfl (by decide) _ k (out.flatMap encRp) rfl ?c0 _ 1 1 [.int .i64 (q.r + x.loc + x.outL + x.holdL + x.backL), .int .i64 (q.t + x.tru + x.out + x.hold + x.back), .bool false, .int .i64 0, .int .i64 0, .int .i64 0, .int .i64 0, .bool false, .bool false, .int .i64 0, .int .i64 0] rfl rfl ?c1 ?c2 ?c3 hsz ?c5 ?_)
            case c0 => exact (O9.out.alloc _).alloc _
            case c1 => exact World.news_of_block (cs := #[.int .i64 (q.r + x.loc + x.outL + x.holdL + x.backL), .int .i64 (q.t + x.tru + x.out + x.hold + x.back), .bool false, .int .i64 0, .int .i64 0, .int .i64 0, .int .i64 0, .bool false, .bool false, .int .i64 0, .int .i64 0]) (t := 55) (fr := (0, 0)) (new_at (by simp [World.setCell]))
            case c2 => simp [Value.oneCell']
            case c3 => unfold maxLen; omega
            case c5 => simp; omega
            intro v2 wc hown hgrow _
            have rowne : ∀ kk, (u9).ownBlock = some kk → W4.heap.size ≤ kk := fun kk hkk => (hrow.out kk hkk).1
            have Mc := Lib.hid (show Mind wc g gs gb n qm.seen.src qm.seen.own by
              rw [hss.out, hso.out]
              exact ⟨(((M9.out.keep (below_alloc (Below.refl _ _) _)).keep (below_alloc (Below.refl _ _) _)).b).grown hgrow (fun kk hkk => by have := rowne kk hkk; omega), (((M9.out.keep (below_alloc (Below.refl _ _) _)).keep (below_alloc (Below.refl _ _) _)).s).grown hgrow (fun kk hkk => by have := rowne kk hkk; omega), (((M9.out.keep (below_alloc (Below.refl _ _) _)).keep (below_alloc (Below.refl _ _) _)).k).grown hgrow (fun kk hkk => by have := rowne kk hkk; omega)⟩)
            have Cc := Lib.hid (show Blk wc gc 53 #[.int .i64 qm.seen.ck.aim, .int .i64 qm.seen.ck.rate, .bool qm.seen.ck.set, .bool qm.seen.ck.held, .int .i64 qm.seen.ck.a, .int .i64 qm.seen.ck.shown] by
              rw [hsc.out]
              exact ((C8.out.alloc _).alloc _).grown hgrow (fun kk hkk => by have := rowne kk hkk; omega))
            have Gc := Lib.hid (((G8.out.alloc _).alloc _).grown hgrow (fun kk hkk => by have := rowne kk hkk; omega))
            have Bc := Lib.hid (Below.grown (below_alloc (below_alloc Bw8.out _) _) hgrow (by have := Bw8.out.size; simp; omega) (fun kk hkk => by have := rowne kk hkk; omega))
            have Zc := Lib.hid (show W4.heap.size ≤ wc.heap.size by have := hgrow.size; simp [World.setCell] at this; omega)
            have hown3 := Lib.hid (show wc.ownsRow W4.heap.size 55 11 v2 (k + 1) ((out ++ [qm.seen.rp]).flatMap encRp) by rw [List.flatMap_append, hrp.out]; first | exact hown | (rw [zW]; exact hown))
            have hl3 := Lib.hid (show (out ++ [qm.seen.rp]).length = k + 1 by rw [List.length_append, hlen.out]; rfl)
            have HR : Hid ((out ++ [qm.seen.rp]) ++ runL s (s.steps.drop (k + 1)) qm.seen = R) := Lib.hid (by rw [← hRx.out]; simp)
            clear hown hgrow
            go_wp2
            go_roundg (m - (k + 1))
            case rel => exact ⟨k + 1, out ++ [qm.seen.rp], qm.seen, by omega, Nat.le_refl _, by go_num, by rw [hst.out], by rw [hsr.out], hl3, hqs, Mc, Cc, hown3, Bc, Gc, Zc, HR⟩
            case measure => omega
          | some kk =>
            have kgood := ((hqm.out.own kk how).at ok.out.p0 ok.out.p1 (Int.le_refl _) (Int.le_refl _) (by have := hqm.out.r1; omega)).1
            have hck := hqm.out.ck ok.out (by omega)
            have hsp := kgood.span
            have RN := fun W => rNow_ok kk qm.r W kgood
            have RR := fun W => rRead_ok qm.ck qm.r (kk.nowLo qm.r) (kk.nowHi qm.r) W hck hsp
            have hsc0 : qm.seen.ck = qm.ck.read qm.r (kk.nowLo qm.r) (kk.nowHi qm.r) := by unfold Pl.seen; rw [how]
            have hrp0 : qm.seen.rp = ⟨qm.r, qm.t, true, kk.nowLo qm.r, kk.nowHi qm.r, qm.seen.ck⟩ := by
              have e1 : qm.seen.own = some kk := by rw [hso.out, how]
              unfold Pl.rp
              rw [e1]
              dsimp only
              rw [show qm.seen.r = qm.r by rw [hsr.out, mr'.out], show qm.seen.t = qm.t by rw [hst.out, mt'.out]]
            rw [mr'.out] at RN hrp0
            rw [mr'.out, mc'.out] at RR hsc0
            rw [mt'.out] at hrp0
            have RN := Lib.hid RN
            have RR := Lib.hid RR
            rw [hsc0] at hrp0
            have hsc0 := Lib.hid hsc0
            have hrp0 := Lib.hid hrp0
            have g2 : w8.cell? ⟨g, 2, none⟩ = some (.bool true) := by have := M9.out.b.list_cell 2; rw [how] at this; exact this
            have y3 : w8.cell? ⟨g, 3, none⟩ = some (.int .i64 kk.a) := by have := M9.out.b.list_cell 3; rw [how] at this; exact this
            have y4 : w8.cell? ⟨g, 4, none⟩ = some (.int .i64 kk.lo) := by have := M9.out.b.list_cell 4; rw [how] at this; exact this
            have y5 : w8.cell? ⟨g, 5, none⟩ = some (.int .i64 kk.hi) := by have := M9.out.b.list_cell 5; rw [how] at this; exact this
            have y6 : w8.cell? ⟨g, 6, none⟩ = some (.int .i64 kk.ppb) := by have := M9.out.b.list_cell 6; rw [how] at this; exact this
            have y7 : w8.cell? ⟨g, 7, none⟩ = some (.int .i64 kk.learnt) := by have := M9.out.b.list_cell 7; rw [how] at this; exact this
            have y8 : w8.cell? ⟨g, 8, none⟩ = some (.int .i64 kk.refused) := by have := M9.out.b.list_cell 8; rw [how] at this; exact this
            clear kgood hck hsp how
            generalize kk.nowLo (q.r + x.loc + x.outL + x.holdL + x.backL) = nl at *
            generalize kk.nowHi (q.r + x.loc + x.outL + x.holdL + x.backL) = nh at *
            generalize q.ck.read (q.r + x.loc + x.outL + x.holdL + x.backL) nl nh = ck' at *
            have hsc := hsc0
            have hrp := hrp0
            have hpr : gc < w8.heap.size := C8.out.lt
            go_wp2_with fail
            refine (RN.out _).mono ?_
            rintro e9 w9 ⟨rfl, hb9⟩
            have hb9' := below_then (below_alloc (Below.refl w8.heap.size w8) _) hb9
            have P9 := Lib.hid ((Blk.new w8 _ _).keep hb9)
            have M10 := Lib.hid (M9.out.keep hb9')
            have C9 := Lib.hid (C8.out.keep hb9')
            have G9 := Lib.hid (G8.out.keep hb9')
            have O10 := Lib.hid (own_below O9.out hb9')
            have Bw9 := Lib.hid (below_then Bw8.out hb9')
            have z9 : w8.heap.size < w9.heap.size := by have := hb9.size; simp at this; omega
            clear hb9 hb9' g2 y3 y4 y5 y6 y7 y8 M9 C8 G8 O9 Bw8
            obtain ⟨a0, a1, a2, a3, a4, a5⟩ := blk6 C9.out
            have f3 := P9.out.frozen 3
            have f4 := P9.out.frozen 4
            have p3 : w9.cell? ⟨w8.heap.size, 3, none⟩ = some (.int .i64 0) := P9.out.cell 3
            have p4 : w9.cell? ⟨w8.heap.size, 4, none⟩ = some (.int .i64 0) := P9.out.cell 4
            have ngp : gc ≠ w8.heap.size := by omega
            have npg : w8.heap.size ≠ gc := by omega
            go_wp2_with fail
            obtain ⟨Wx, hWx⟩ : ∃ Wx, Wx = (w9.setCell ⟨w8.heap.size, 3, none⟩ (.int .i64 nl)).setCell ⟨w8.heap.size, 4, none⟩ (.int .i64 nh) := ⟨_, rfl⟩
            have q1 : Blk (w9.setCell ⟨w8.heap.size, 3, none⟩ (.int .i64 nl)) w8.heap.size 55 #[.int .i64 (q.r + x.loc + x.outL + x.holdL + x.backL), .int .i64 (q.t + x.tru + x.out + x.hold + x.back), .bool true, .int .i64 nl, .int .i64 0, .int .i64 0, .int .i64 0, .bool false, .bool false, .int .i64 0, .int .i64 0] := P9.out.set 3 _
            have q2 : Blk ((w9.setCell ⟨w8.heap.size, 3, none⟩ (.int .i64 nl)).setCell ⟨w8.heap.size, 4, none⟩ (.int .i64 nh)) w8.heap.size 55 #[.int .i64 (q.r + x.loc + x.outL + x.holdL + x.backL), .int .i64 (q.t + x.tru + x.out + x.hold + x.back), .bool true, .int .i64 nl, .int .i64 nh, .int .i64 0, .int .i64 0, .bool false, .bool false, .int .i64 0, .int .i64 0] := q1.set 4 _
            have Px := Lib.hid (show Blk Wx w8.heap.size _ _ by rw [hWx]; exact q2)
            have Ox := Lib.hid (show Only w8.heap.size w8.heap.size w9 Wx by rw [hWx]; exact ((Only.refl _ _ _).set (.inl rfl) _).set (.inl rfl) _)
            rw [← hWx]
            clear hWx q1 q2 a0 a1 a2 a3 a4 a5 f3 f4 p3 p4
            refine (RR.out _).mono ?_
            rintro e9 wy ⟨rfl, hby⟩
            have oxy : Only w8.heap.size w8.heap.size w9 wy := Ox.out.then hby
            have ng : g ≠ w8.heap.size := by omega
            have ngs : gs ≠ w8.heap.size := by have := M10.out.s.lt; have := zs; omega
            have ngb : gb ≠ w8.heap.size := by have := zk; omega
            have My := Lib.hid (M10.out.keepO oxy ng ng ngs ngs ngb ngb)
            have Cy := Lib.hid (C9.out.keepO oxy ngp ngp)
            have Gy := Lib.hid (G9.out.keepO oxy (by omega) (by omega))
            have Oy := Lib.hid (own_far O10.out oxy (fun kk hkk => by have := (hrow.out kk hkk).2; omega) (fun kk hkk => by have := (hrow.out kk hkk).2; omega))
            have By := Lib.hid (Only.below Bw9.out oxy (by omega) (by omega))
            have Py := Lib.hid (Px.out.keep hby)
            have zy : w8.heap.size < wy.heap.size := Py.out.lt
            have zyc : gc < wy.heap.size := Cy.out.lt
            clear oxy hby Ox M10 C9 G9 O10 Bw9 Px P9
            obtain ⟨a0, a1, a2, a3, a4, a5⟩ := blk6 Cy.out
            obtain ⟨fa0, fa1, fa2, fa3, fa4, fa5⟩ := frz6 Cy.out
            obtain ⟨k0, k1, k2, k3, k4, k5, k6, k7, k8, k9, k10⟩ := blk11 Py.out
            obtain ⟨fk0, fk1, fk2, fk3, fk4, fk5, fk6, fk7, fk8, fk9, fk10⟩ := frz11 Py.out
            have oset : Hid (∀ o, Only gc w8.heap.size wy (((((((((((((wy.setCell ⟨gc, 0, none⟩ (.int .i64 ck'.aim)).setCell ⟨gc, 1, none⟩ (.int .i64 ck'.rate)).setCell ⟨gc, 2, none⟩ (.bool ck'.set)).setCell ⟨gc, 3, none⟩ (.bool ck'.held)).setCell ⟨gc, 4, none⟩ (.int .i64 ck'.a)).setCell ⟨gc, 5, none⟩ (.int .i64 ck'.shown)).setCell ⟨w8.heap.size, 5, none⟩ (.int .i64 ck'.aim)).setCell ⟨w8.heap.size, 6, none⟩ (.int .i64 ck'.rate)).setCell ⟨w8.heap.size, 7, none⟩ (.bool ck'.set)).setCell ⟨w8.heap.size, 8, none⟩ (.bool ck'.held)).setCell ⟨w8.heap.size, 9, none⟩ (.int .i64 ck'.a)).setCell ⟨w8.heap.size, 10, none⟩ (.int .i64 ck'.shown)).alloc o)) := Lib.hid (fun o => Only.alloc (by repeat (with_reducible first | exact Only.refl _ _ _ | refine Only.set ?_ (by first | exact .inl rfl | exact .inr rfl) _)) o)
            have cset : Hid (∀ o, Blk (((((((((((((wy.setCell ⟨gc, 0, none⟩ (.int .i64 ck'.aim)).setCell ⟨gc, 1, none⟩ (.int .i64 ck'.rate)).setCell ⟨gc, 2, none⟩ (.bool ck'.set)).setCell ⟨gc, 3, none⟩ (.bool ck'.held)).setCell ⟨gc, 4, none⟩ (.int .i64 ck'.a)).setCell ⟨gc, 5, none⟩ (.int .i64 ck'.shown)).setCell ⟨w8.heap.size, 5, none⟩ (.int .i64 ck'.aim)).setCell ⟨w8.heap.size, 6, none⟩ (.int .i64 ck'.rate)).setCell ⟨w8.heap.size, 7, none⟩ (.bool ck'.set)).setCell ⟨w8.heap.size, 8, none⟩ (.bool ck'.held)).setCell ⟨w8.heap.size, 9, none⟩ (.int .i64 ck'.a)).setCell ⟨w8.heap.size, 10, none⟩ (.int .i64 ck'.shown)).alloc o) gc 53 #[.int .i64 ck'.aim, .int .i64 ck'.rate, .bool ck'.set, .bool ck'.held, .int .i64 ck'.a, .int .i64 ck'.shown]) := Lib.hid (fun o => by
              have cs0 : Blk (wy.setCell ⟨gc, 0, none⟩ (.int .i64 ck'.aim)) gc 53 #[.int .i64 ck'.aim, .int .i64 q.ck.rate, .bool q.ck.set, .bool q.ck.held, .int .i64 q.ck.a, .int .i64 q.ck.shown] := Cy.out.set 0 _
              have cs1 : Blk ((wy.setCell ⟨gc, 0, none⟩ (.int .i64 ck'.aim)).setCell ⟨gc, 1, none⟩ (.int .i64 ck'.rate)) gc 53 #[.int .i64 ck'.aim, .int .i64 ck'.rate, .bool q.ck.set, .bool q.ck.held, .int .i64 q.ck.a, .int .i64 q.ck.shown] := cs0.set 1 _
              have cs2 : Blk (((wy.setCell ⟨gc, 0, none⟩ (.int .i64 ck'.aim)).setCell ⟨gc, 1, none⟩ (.int .i64 ck'.rate)).setCell ⟨gc, 2, none⟩ (.bool ck'.set)) gc 53 #[.int .i64 ck'.aim, .int .i64 ck'.rate, .bool ck'.set, .bool q.ck.held, .int .i64 q.ck.a, .int .i64 q.ck.shown] := cs1.set 2 _
              have cs3 : Blk ((((wy.setCell ⟨gc, 0, none⟩ (.int .i64 ck'.aim)).setCell ⟨gc, 1, none⟩ (.int .i64 ck'.rate)).setCell ⟨gc, 2, none⟩ (.bool ck'.set)).setCell ⟨gc, 3, none⟩ (.bool ck'.held)) gc 53 #[.int .i64 ck'.aim, .int .i64 ck'.rate, .bool ck'.set, .bool ck'.held, .int .i64 q.ck.a, .int .i64 q.ck.shown] := cs2.set 3 _
              have cs4 : Blk (((((wy.setCell ⟨gc, 0, none⟩ (.int .i64 ck'.aim)).setCell ⟨gc, 1, none⟩ (.int .i64 ck'.rate)).setCell ⟨gc, 2, none⟩ (.bool ck'.set)).setCell ⟨gc, 3, none⟩ (.bool ck'.held)).setCell ⟨gc, 4, none⟩ (.int .i64 ck'.a)) gc 53 #[.int .i64 ck'.aim, .int .i64 ck'.rate, .bool ck'.set, .bool ck'.held, .int .i64 ck'.a, .int .i64 q.ck.shown] := cs3.set 4 _
              have cs5 : Blk ((((((wy.setCell ⟨gc, 0, none⟩ (.int .i64 ck'.aim)).setCell ⟨gc, 1, none⟩ (.int .i64 ck'.rate)).setCell ⟨gc, 2, none⟩ (.bool ck'.set)).setCell ⟨gc, 3, none⟩ (.bool ck'.held)).setCell ⟨gc, 4, none⟩ (.int .i64 ck'.a)).setCell ⟨gc, 5, none⟩ (.int .i64 ck'.shown)) gc 53 #[.int .i64 ck'.aim, .int .i64 ck'.rate, .bool ck'.set, .bool ck'.held, .int .i64 ck'.a, .int .i64 ck'.shown] := cs4.set 5 _
              exact ((((((cs5.far (p := ⟨_, _, _⟩) ngp _).far (p := ⟨_, _, _⟩) ngp _).far (p := ⟨_, _, _⟩) ngp _).far (p := ⟨_, _, _⟩) ngp _).far (p := ⟨_, _, _⟩) ngp _).far (p := ⟨_, _, _⟩) ngp _).alloc o)
            have hsz : (k + 1) * 80 ≤ 140737488355328 := by omega
            go_wp2_with (at_builtin; refine wpList_append_own _ rfl (.tmp 146) (.tmp 148) 35 rfl W4.heap.size 55 i0 _ 11 80 Tryz.underlying35 hi hz0 hz1 hz2 rfl (by decide) _ k (out.flatMap encRp) rfl ?c0 _ 1 1 [.int .i64 (q.r + x.loc + x.outL + x.holdL + x.backL), .int .i64 (q.t + x.tru + x.out + x.hold + x.back), .bool true, .int .i64 nl, .int .i64 nh, .int .i64 ck'.aim, .int .i64 ck'.rate, .bool ck'.set, .bool ck'.held, .int .i64 ck'.a, .int .i64 ck'.shown] rfl rfl ?c1 ?c2 ?c3 hsz ?c5 ?_)
            case c0 => exact own_far Oy.out (oset.out _) (fun kk hkk => by have := (hrow.out kk hkk).1; omega) (fun kk hkk => by have := (hrow.out kk hkk).2; omega)
            case c1 => exact World.news_of_block (cs := #[.int .i64 (q.r + x.loc + x.outL + x.holdL + x.backL), .int .i64 (q.t + x.tru + x.out + x.hold + x.back), .bool true, .int .i64 nl, .int .i64 nh, .int .i64 ck'.aim, .int .i64 ck'.rate, .bool ck'.set, .bool ck'.held, .int .i64 ck'.a, .int .i64 ck'.shown]) (t := 55) (fr := (0, 0)) (new_at (by simp [World.setCell]))
            case c2 => simp [Value.oneCell']
            case c3 => unfold maxLen; omega
            case c5 => have := By.out.size; simp [World.setCell]; omega
            intro v2 wc hown hgrow _
            have rowne : ∀ kk, (u9).ownBlock = some kk → W4.heap.size ≤ kk := fun kk hkk => (hrow.out kk hkk).1
            have Mc := Lib.hid (show Mind wc g gs gb n qm.seen.src qm.seen.own by
              rw [hss.out, hso.out]
              exact ⟨((My.out.keepO (oset.out _) dgg ng dgs ngs dgb ngb).b).grown hgrow (fun kk hkk => by have := rowne kk hkk; omega), ((My.out.keepO (oset.out _) dgg ng dgs ngs dgb ngb).s).grown hgrow (fun kk hkk => by have := rowne kk hkk; omega), ((My.out.keepO (oset.out _) dgg ng dgs ngs dgb ngb).k).grown hgrow (fun kk hkk => by have := rowne kk hkk; omega)⟩)
            have Cc := Lib.hid (show Blk wc gc 53 #[.int .i64 qm.seen.ck.aim, .int .i64 qm.seen.ck.rate, .bool qm.seen.ck.set, .bool qm.seen.ck.held, .int .i64 qm.seen.ck.a, .int .i64 qm.seen.ck.shown] by
              rw [hsc.out]
              exact (cset.out _).grown hgrow (fun kk hkk => by have := rowne kk hkk; omega))
            have Gc := Lib.hid ((Gy.out.keepO (oset.out _) (by omega) (by omega)).grown hgrow (fun kk hkk => by have := rowne kk hkk; omega))
            have Bc := Lib.hid (Below.grown (Only.below By.out (oset.out _) (by omega) (by omega)) hgrow (by have := By.out.size; simp [World.setCell]; omega) (fun kk hkk => by have := rowne kk hkk; omega))
            have Zc := Lib.hid (show W4.heap.size ≤ wc.heap.size by have := hgrow.size; simp [World.setCell] at this; omega)
            have hown3 := Lib.hid (show wc.ownsRow W4.heap.size 55 11 v2 (k + 1) ((out ++ [qm.seen.rp]).flatMap encRp) by rw [List.flatMap_append, hrp.out]; first | exact hown | (rw [zW]; exact hown))
            have hl3 := Lib.hid (show (out ++ [qm.seen.rp]).length = k + 1 by rw [List.length_append, hlen.out]; rfl)
            have HR : Hid ((out ++ [qm.seen.rp]) ++ runL s (s.steps.drop (k + 1)) qm.seen = R) := Lib.hid (by rw [← hRx.out]; simp)
            clear hown hgrow
            go_wp2
            go_roundg (m - (k + 1))
            case rel => exact ⟨k + 1, out ++ [qm.seen.rp], qm.seen, by omega, Nat.le_refl _, by go_num, by rw [hst.out], by rw [hsr.out], hl3, hqs, Mc, Cc, hown3, Bc, Gc, Zc, HR⟩
            case measure => omega
        · obtain rfl : m = k := by omega
          have hRk' := hRk.out
          rw [List.drop_eq_nil_of_le (by rw [hm2.out]; omega)] at hRk'
          have hRe : out = R := by simpa [runL] using hRk'
          obtain ⟨A2, c2, rfl, hrd⟩ := RdL.of_own (enc := encRp) (k := 11) (n := m) (fun _ => rfl) ho.out hlen.out (by omega)
          have K := Lib.hid ((P'.out (.returned (.tuple #[.slice A2 m c2, .int .i64 0])) wr).2 ⟨A2, c2, by rw [← hRe, hlen.out], by rw [← hRe, hlen.out]; exact hrd, hbr.out⟩)
          have z6 : wr.cell? ⟨w.heap.size, 6, none⟩ = some (.slice A' m c') := Gr.out.cell 6
          have tl : decide ((m : Int) < m) = false := by simp
          clear hrd
          go_wp2
          exact K.out
  · have hRn : R = [] := by rw [← hR.out]; unfold Sch.run; rw [if_neg (by rw [hq.out]; exact hq1)]
    clear hst' hR
    dsimp only [vSch] at *
    go_enter Tryz.func10, Tryz.ntmps10
    go_wp2_with fail
    refine (C.out _ (below_alloc (Below.refl _ _) _)).mono ?_
    rintro e w1 ⟨rfl, hb1⟩
    have hB1 := below_then (below_alloc (Below.refl _ _) _) hb1
    have K := Lib.hid ((P'.out (.returned (.tuple #[.slice none 0 0, .int .i64 q])) w1).2 ⟨none, 0, by rw [hRn]; rfl, by rw [hRn]; exact RdL.nil _ _ _ _ _, hB1⟩)
    clear hb1 hB1 C
    go_wp2
    exact K.out
end Go.Proofs.YtnafhblioabkgaaGreat
