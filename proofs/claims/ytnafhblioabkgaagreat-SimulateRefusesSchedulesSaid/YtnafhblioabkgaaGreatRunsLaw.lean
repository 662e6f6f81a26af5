/- The statement about what was made: Check, Lies and Run return what is specified. -/
import Derived.Test.YtnafhblioabkgaaGreatCaseSched
import Derived.Test.YtnafhblioabkgaaGreatSame
import Derived.Test.YtnafhblioabkgaaGreatRRun
import Derived.Test.YtnafhblioabkgaaGreatRLies
namespace Go.Proofs.YtnafhblioabkgaaGreat
open Go.RowKit

def srF (g : Nat) (s : Sch) (A A' : Option Addr) (c c' : Nat) (T : Option Addr) (nt ct : Nat) : Nat → Value → World → Prop
  | 0, x, _ => x = .agg #[.int .i64 s.start, .int .i64 s.loc, .int .i64 s.ppb, .int .i64 s.liars, .int .i64 s.aim, .slice A s.errs.length c, .slice A' s.steps.length c']
  | 1, x, _ => x = .slice T nt ct
  | 2, x, W => x = .pointer (some ⟨g, 0, none⟩) ∧ g + 1 ≤ W.heap.size
  | 3, x, W => ∃ (s2 : Sch) (A2 B2 : Option Addr) (c2 d2 k2 : Nat), x = .agg #[.int .i64 s2.start, .int .i64 s2.loc, .int .i64 s2.ppb, .int .i64 s2.liars, .int .i64 s2.aim, .slice A2 s2.errs.length c2, .slice B2 s2.steps.length d2] ∧ g + 2 ≤ W.heap.size ∧ k2 ≤ W.heap.size ∧ SchIn W k2 s2 A2 B2
  | 4, x, W => ∃ (b : Nat) (s2 : Sch) (A2 B2 : Option Addr) (c2 d2 : Nat), x = .slice (some ⟨b, 0, none⟩) 2 2 ∧ g + 2 ≤ b ∧ SchIn W b s2 A2 B2 ∧ Blk W b 25 #[.int .i64 s.start, .int .i64 s.loc, .int .i64 s.ppb, .int .i64 s.liars, .int .i64 s.aim, .slice A s.errs.length c, .slice A' s.steps.length c', .int .i64 s2.start, .int .i64 s2.loc, .int .i64 s2.ppb, .int .i64 s2.liars, .int .i64 s2.aim, .slice A2 s2.errs.length c2, .slice B2 s2.steps.length d2]
  | 5, x, _ => x = .int .i64 2
  | 6, x, _ => x = .int .i64 0
  | _, _, _ => True
def srFr (q : Nat) (s : Sch) (A A' : Option Addr) (c c' : Nat) (T : Option Addr) (nt ct : Nat) (v : Nat → Value) : Act := ⟨#[.agg #[.int .i64 s.start, .int .i64 s.loc, .int .i64 s.ppb, .int .i64 s.liars, .int .i64 s.aim, .slice A s.errs.length c, .slice A' s.steps.length c'], .slice T nt ct, .pointer (some ⟨q, 0, none⟩), undef, .bool false, undef, undef, undef, undef, undef, undef, undef, undef, undef, undef, undef, .agg #[.int .i64 s.start, .int .i64 s.loc, .int .i64 s.ppb, .int .i64 s.liars, .int .i64 s.aim, .slice A s.errs.length c, .slice A' s.steps.length c'], .bool true, .bool false, undef, v 20, v 21, v 22, v 23, v 24, v 25, v 26, undef, undef, undef, undef, undef, undef, undef, undef, undef, undef, undef, undef, undef, undef, undef, undef, undef, undef, undef, undef, undef, undef, undef, undef, undef, undef, undef, undef, undef, undef, undef, undef, undef, undef, undef, undef, undef, undef, undef, undef, undef, undef, undef, undef, undef, undef, undef, undef, undef, undef, undef, undef, undef, undef, undef, undef], []⟩
theorem SchIn.more {w : World} {B B' : Nat} {s : Sch} {A A' : Option Addr} (h : SchIn w B s A A') (hB : B ≤ B') : SchIn w B' s A A' := ⟨h.n, h.m, h.e.more hB, h.t.more hB⟩
theorem Blk.keep2 {w w' : World} {g B : Nat} {t : TypeId} {cs : Array Value} (h : Blk w g t cs) (hb : Below B w w') (hg : g < B) : Blk w' g t cs := (hb.block g hg).trans h
theorem BOnly {w w1 w2 : World} {g B : Nat} (h : Below B w w1) (k : Only g g w1 w2) (hg : B ≤ g) (hB : B ≤ w.heap.size) : Below B w w2 := ⟨k.os.trans h.os, k.tape.trans h.tape, k.output.trans h.output, Nat.le_trans h.size k.size, fun j hj => (k.block j (by have := h.size; omega) (by omega) (by omega)).trans (h.block j hj)⟩
theorem srF_keep {g : Nat} {s : Sch} {A A' : Option Addr} {c c' : Nat} {T : Option Addr} {nt ct : Nat} {i j : Nat} {x : Value} {w w' : World} (hij : i ≠ j) (h : srF g s A A' c c' T nt ct j x w) (ho : if i = 3 then w.heap.size = g + 1 ∧ Only g g w w' else Below w.heap.size w w') : srF g s A A' c c' T nt ct j x w' := by
  have h1 : w.heap.size ≤ w'.heap.size := by
    split at ho
    · exact ho.2.size
    · exact ho.size
  have h2 : j = 3 → Below w.heap.size w w' := fun hj => by
    rw [if_neg (by omega)] at ho
    exact ho
  have h3 : g + 2 < w.heap.size → Below w.heap.size w w' := fun hj => by
    split at ho
    · omega
    · exact ho
  unfold srF at *
  split at h
  all_goals first
    | exact h
    | trivial
    | exact ⟨h.1, Nat.le_trans h.2 h1⟩
    | (obtain ⟨s2, A2, B2, c2, d2, k2, e1, e2, e3, e4⟩ := h; exact ⟨s2, A2, B2, c2, d2, k2, e1, Nat.le_trans e2 h1, Nat.le_trans e3 h1, e4.below (h2 rfl) e3⟩)
    | (obtain ⟨b, s2, A2, B2, c2, d2, e1, e2, e3, e4⟩ := h; have hl := e4.lt; have hb := h3 (by omega); exact ⟨b, s2, A2, B2, c2, d2, e1, e2, e3.below hb (by omega), e4.keep2 hb hl⟩)

set_option maxHeartbeats 8000000 in
set_option maxRecDepth 100000 in
theorem SimulateRuns_ok (s : Sch) (A A' : Option Addr) (c c' : Nat) (T : Option Addr) (nt ct : Nat) (l : List Int) (w : World) (hes : s.errs.length ≤ 20 ∧ s.steps.length ≤ 65 → RdL encI 1 w w.heap.size A s.errs.length s.errs ∧ RdL encStp 11 w w.heap.size A' s.steps.length s.steps) (hT : RdL encI 1 w w.heap.size T nt l) :
    Calls Tryz.prog 3 #[.agg #[.int .i64 s.start, .int .i64 s.loc, .int .i64 s.ppb, .int .i64 s.liars, .int .i64 s.aim, .slice A s.errs.length c, .slice A' s.steps.length c'], .slice T nt ct] w fun e w' => e = .returned (.bool true) ∧ Below w.heap.size w w' := by
  obtain ⟨W0, hW⟩ : ∃ W, W = w.alloc (.cells #[.int .i64 s.start, .int .i64 s.loc, .int .i64 s.ppb, .int .i64 s.liars, .int .i64 s.aim, .slice A s.errs.length c, .slice A' s.steps.length c'] 25) := ⟨_, rfl⟩
  have BW0 := Lib.hid (show Below w.heap.size w W0 by rw [hW]; exact below_alloc (Below.refl _ _) _)
  have SQ0 := Lib.hid (show Blk W0 w.heap.size 25 #[.int .i64 s.start, .int .i64 s.loc, .int .i64 s.ppb, .int .i64 s.liars, .int .i64 s.aim, .slice A s.errs.length c, .slice A' s.steps.length c'] by rw [hW]; exact Blk.new _ _ _)
  obtain ⟨x0, x1, x2, x3, x4, x5, x6⟩ := blk7 SQ0.out
  have H := Lib.hid (And.intro hes hT)
  clear hes hT
  go_enter Tryz.func3, Tryz.ntmps3
  go_wp2_with fail
  rw [← hW]
  clear hW
  refine (light_ok (.int .i64 s.start) (.int .i64 s.loc) (.int .i64 s.ppb) (.int .i64 s.liars) (.int .i64 s.aim) A A' s.errs.length s.steps.length c c' W0).mono ?_
  rintro e W ⟨rfl, hbW⟩
  have BW := Lib.hid (show Below w.heap.size w W from BW0.out.trans (hbW.mono BW0.out.size))
  have SQ := Lib.hid (SQ0.out.keep2 hbW SQ0.out.lt)
  clear hbW BW0 SQ0 x0 x1 x2 x3 x4 x5 x6
  by_cases hlight : s.errs.length ≤ 20 ∧ s.steps.length ≤ 65
  case neg =>
    have t1 : (decide (s.errs.length ≤ 20) && decide (s.steps.length ≤ 65)) = false := by simp; omega
    rw [t1]
    go_wp2_with fail
    refine (known_ok W).mono ?_
    rintro e w1 ⟨rfl, hb⟩
    have B1 := Lib.hid (BW.out.trans (hb.mono BW.out.size))
    clear hb
    go_wp2
    go_ret
    exact ⟨rfl, B1.out⟩
  case pos =>
    have t1 : (decide (s.errs.length ≤ 20) && decide (s.steps.length ≤ 65)) = true := by simp; omega
    have hS := Lib.hid (SchIn.mk (w := w) (B := w.heap.size) (A := A) (A' := A') hlight.1 hlight.2 (H.out.1 hlight).1 (H.out.1 hlight).2)
    have hqW := SQ.out.lt
    have hl := Lib.hid (show ∀ W1, Below W.heap.size W.drew W1 → RdL encI 1 W1 W1.heap.size T nt l from fun W1 hb => by
      have k1 : Below w.heap.size w W1 := BW.out.trans ((below_then (below_drew (Below.refl _ _)) hb).mono BW.out.size)
      exact (H.out.2.below k1 (Nat.le_refl _)).more k1.size)
    rw [t1]
    clear t1 hlight H
    go_wp2_with fail
    refine wp_region_all (by kernel_rfl) (srFr w.heap.size s A A' c c' T nt ct) (fun _ => undef) (by rfl) (srF W.heap.size s A A' c c' T nt ct) (fun L W1 => Below W.heap.size W.drew W1 ∧ (L.getD 2 true = false → W1.heap.size = W.heap.size) ∧ (L.getD 3 true = false → W1.heap.size ≤ W.heap.size + 1) ∧ (W1.heap.size = W.heap.size + 1 → Tp W1 W.heap.size W.heap.size T nt ct l)) (fun i W1 W2 => if i = 3 then W1.heap.size = W.heap.size + 1 ∧ Only W.heap.size W.heap.size W1 W2 else Below W1.heap.size W1 W2) (by kernel_rfl) (by kernel_rfl) ?hX0 (fun i j x w1 w2 hij h k => srF_keep hij h k) ?hdst ?hop ?hend
    case hX0 => exact ⟨Below.refl _ _, fun _ => rfl, fun _ => Nat.le_succ _, fun h => absurd h (by show W.heap.size ≠ W.heap.size + 1; omega)⟩
    case hdst =>
      intro i o hi ho
      have hi' : i < 7 := hi
      obtain rfl | rfl | rfl | rfl | rfl | rfl | rfl : i = 0 ∨ i = 1 ∨ i = 2 ∨ i = 3 ∨ i = 4 ∨ i = 5 ∨ i = 6 := by omega
      all_goals
        obtain rfl := Option.some.inj ho
        exact ⟨rfl, fun _ _ => rfl⟩
    case hop =>
      intro i o L v W1 hi ho hu hC hX hd K hK
      have hi' : i < 7 := hi
      clear hi
      obtain rfl | rfl | rfl | rfl | rfl | rfl | rfl : i = 0 ∨ i = 1 ∨ i = 2 ∨ i = 3 ∨ i = 4 ∨ i = 5 ∨ i = 6 := by omega
      · obtain rfl := Option.some.inj ho
        have P1 := SQ.out.drew.keep2 hX.1 (by omega)
        obtain ⟨x0, x1, x2, x3, x4, x5, x6⟩ := blk7 P1
        simp only [srFr] at hK ⊢
        go_simp
        exact hK _ _ ⟨hX.1, fun h => hX.2.1 (by rwa [getD_set_ne true (by decide)] at h), fun h => hX.2.2.1 (by rwa [getD_set_ne true (by decide)] at h), hX.2.2.2⟩ (by exact Below.refl _ _) rfl
      · obtain rfl := Option.some.inj ho
        simp only [srFr] at hK ⊢
        go_simp
        exact hK _ _ ⟨hX.1, fun h => hX.2.1 (by rwa [getD_set_ne true (by decide)] at h), fun h => hX.2.2.1 (by rwa [getD_set_ne true (by decide)] at h), hX.2.2.2⟩ (by exact Below.refl _ _) rfl
      · obtain rfl := Option.some.inj ho
        have h1 : (v 21) = .slice T nt ct := hd ⟨1, .data⟩ (by simp) rfl _ 21 rfl rfl
        simp only [srFr, h1] at hK ⊢
        go_simp
        have hsz := hX.2.1 hu
        refine (New_ok T nt ct l W1 (hl.out W1 hX.1)).mono ?_
        rintro e w2 ⟨rfl, ht, hb, hs2⟩
        refine hK _ _ ⟨hX.1.trans (hb.mono (by omega)), fun h => ?_, fun h => by omega, fun _ => by rw [hsz] at ht; exact ht⟩ (by exact hb) ⟨by rw [hsz], by omega⟩
        rw [getD_done] at h
        cases h
      · obtain rfl := Option.some.inj ho
        have h2 : (v 22) = .pointer (some ⟨W.heap.size, 0, none⟩) ∧ W.heap.size + 1 ≤ W1.heap.size := hd ⟨2, .data⟩ (by simp) rfl _ 22 rfl rfl
        obtain ⟨h2, h2b⟩ := h2
        simp only [srFr, h2] at hK ⊢
        go_simp
        have hsz : W1.heap.size = W.heap.size + 1 := by have := hX.2.2.1 hu; omega
        refine (Schedule_ok 16 true W1 W.heap.size W.heap.size T nt ct l (hX.2.2.2 hsz) (by omega) (by omega)).mono ?_
        rintro e w2 ⟨s2, A2, c2, B2, d2, rfl, n1, n5, m1, m16, he2, hs2, ho, hlt, -⟩
        refine hK _ _ ⟨(BOnly hX.1 ho (Nat.le_refl _) (Nat.le_refl _)), fun h => ?_, fun h => ?_, fun h => by omega⟩ (by exact ⟨hsz, ho⟩) ⟨s2, A2, B2, c2, d2, w2.heap.size, rfl, by omega, Nat.le_refl _, ⟨by omega, by omega, he2, hs2⟩⟩
        · have := hX.2.1 (by rwa [getD_set_ne true (by decide)] at h)
          omega
        · rw [getD_done] at h
          cases h
      · obtain rfl := Option.some.inj ho
        have h0 : (v 20) = .agg #[.int .i64 s.start, .int .i64 s.loc, .int .i64 s.ppb, .int .i64 s.liars, .int .i64 s.aim, .slice A s.errs.length c, .slice A' s.steps.length c'] := hd ⟨0, .data⟩ (by simp) rfl _ 20 rfl rfl
        have h3 : ∃ (s2 : Sch) (A2 B2 : Option Addr) (c2 d2 k2 : Nat), (v 23) = .agg #[.int .i64 s2.start, .int .i64 s2.loc, .int .i64 s2.ppb, .int .i64 s2.liars, .int .i64 s2.aim, .slice A2 s2.errs.length c2, .slice B2 s2.steps.length d2] ∧ W.heap.size + 2 ≤ W1.heap.size ∧ k2 ≤ W1.heap.size ∧ SchIn W1 k2 s2 A2 B2 := hd ⟨3, .data⟩ (by simp) rfl _ 23 rfl rfl
        obtain ⟨s2, A2, B2, c2, d2, k2, h3, h3b, h3c, h3d⟩ := h3
        simp only [srFr, h0, h3] at hK ⊢
        go_simp
        have hbl : Below W1.heap.size W1 (W1.alloc (.cells #[.int .i64 s.start, .int .i64 s.loc, .int .i64 s.ppb, .int .i64 s.liars, .int .i64 s.aim, .slice A s.errs.length c, .slice A' s.steps.length c', .int .i64 s2.start, .int .i64 s2.loc, .int .i64 s2.ppb, .int .i64 s2.liars, .int .i64 s2.aim, .slice A2 s2.errs.length c2, .slice B2 s2.steps.length d2] 25)) := below_alloc (Below.refl _ _) _
        refine hK _ _ ⟨hX.1.trans (hbl.mono (by have := hX.1.size; exact this)), fun h => ?_, fun h => ?_, fun h => ?_⟩ (by exact hbl) ⟨W1.heap.size, s2, A2, B2, c2, d2, rfl, h3b, (h3d.below hbl h3c).more h3c, Blk.new _ _ _⟩
        · have := hX.2.1 (by rwa [getD_set_ne true (by decide)] at h)
          omega
        · have := hX.2.2.1 (by rwa [getD_set_ne true (by decide)] at h)
          omega
        · have := hbl.size
          omega
      · obtain rfl := Option.some.inj ho
        have h4 : ∃ (b : Nat) (s2 : Sch) (A2 B2 : Option Addr) (c2 d2 : Nat), (v 24) = .slice (some ⟨b, 0, none⟩) 2 2 ∧ W.heap.size + 2 ≤ b ∧ SchIn W1 b s2 A2 B2 ∧ Blk W1 b 25 #[.int .i64 s.start, .int .i64 s.loc, .int .i64 s.ppb, .int .i64 s.liars, .int .i64 s.aim, .slice A s.errs.length c, .slice A' s.steps.length c', .int .i64 s2.start, .int .i64 s2.loc, .int .i64 s2.ppb, .int .i64 s2.liars, .int .i64 s2.aim, .slice A2 s2.errs.length c2, .slice B2 s2.steps.length d2] := hd ⟨4, .data⟩ (by simp) rfl _ 24 rfl rfl
        obtain ⟨b, s2, A2, B2, c2, d2, h4, -⟩ := h4
        simp only [srFr, h4] at hK ⊢
        go_simp
        exact hK _ _ ⟨hX.1, fun h => hX.2.1 (by rwa [getD_set_ne true (by decide)] at h), fun h => hX.2.2.1 (by rwa [getD_set_ne true (by decide)] at h), hX.2.2.2⟩ (by exact Below.refl _ _) rfl
      · obtain rfl := Option.some.inj ho
        simp only [srFr] at hK ⊢
        go_simp
        exact hK _ _ ⟨hX.1, fun h => hX.2.1 (by rwa [getD_set_ne true (by decide)] at h), fun h => hX.2.2.1 (by rwa [getD_set_ne true (by decide)] at h), hX.2.2.2⟩ (by exact Below.refl _ _) rfl
    case hend =>
      intro L v W1 hX hall hF
      have h24 : ∃ (b : Nat) (s2 : Sch) (A2 B2 : Option Addr) (c2 d2 : Nat), (v 24) = .slice (some ⟨b, 0, none⟩) 2 2 ∧ W.heap.size + 2 ≤ b ∧ SchIn W1 b s2 A2 B2 ∧ Blk W1 b 25 #[.int .i64 s.start, .int .i64 s.loc, .int .i64 s.ppb, .int .i64 s.liars, .int .i64 s.aim, .slice A s.errs.length c, .slice A' s.steps.length c', .int .i64 s2.start, .int .i64 s2.loc, .int .i64 s2.ppb, .int .i64 s2.liars, .int .i64 s2.aim, .slice A2 s2.errs.length c2, .slice B2 s2.steps.length d2] := hF 4 _ 24 rfl rfl
      have h25 : (v 25) = .int .i64 2 := hF 5 _ 25 rfl rfl
      have h26 : (v 26) = .int .i64 0 := hF 6 _ 26 rfl rfl
      obtain ⟨b, s2, A2, B2, c2, d2, h24, hgb, hS2, hP⟩ := h24
      have hXb := hX.1
      have hbl := hP.lt
      have S2 := Lib.hid hS2
      have S1 := Lib.hid ((((hS.out.below BW.out (Nat.le_refl _)).below (below_then (below_drew (Below.refl _ _)) hXb) (Nat.le_of_lt hqW)).more (show w.heap.size ≤ b by omega)))
      have BX := Lib.hid (show Below w.heap.size w W1 from BW.out.trans ((below_then (below_drew (Below.refl _ _)) hXb).mono BW.out.size))
      have PB := Lib.hid hP
      clear hX hF hall hS2 hP hXb
      simp only [srFr, h24, h25, h26]
      generalize v 20 = v20, v 21 = v21, v 22 = v22, v 23 = v23
      go_wp2_with fail
      go_loopg [6, 7, 8, 9, 10, 11, 12, 13, 14, 15, 26] 2 (fun gg _ _ _ _ _ _ _ _ _ _ s26 wr => ∃ k : Nat, k ≤ 2 ∧ 2 - k ≤ gg ∧ s26 = .int .i64 k ∧ Hid (Below W1.heap.size W1 wr))
      case atStart => exact ⟨0, Nat.zero_le _, by omega, rfl, Lib.hid (Below.refl _ _)⟩
      case round =>
        obtain ⟨k, hk, hg, rfl, hb⟩ := hrel
        have PW := PB.out.keep2 hb.out hbl
        have hbw := PW.lt
        by_cases hlt : k < 2
        · obtain ⟨sx, Ax, Bx, cx, dx, hin, c0, c1, c2, c3, c4, c5, c6⟩ : ∃ (sx : Sch) (Ax Bx : Option Addr) (cx dx : Nat), SchIn wr b sx Ax Bx ∧ wr.cell? ⟨b, k * 7, none⟩ = some (.int .i64 sx.start) ∧ wr.cell? ⟨b, k * 7 + 1, none⟩ = some (.int .i64 sx.loc) ∧ wr.cell? ⟨b, k * 7 + 2, none⟩ = some (.int .i64 sx.ppb) ∧ wr.cell? ⟨b, k * 7 + 3, none⟩ = some (.int .i64 sx.liars) ∧ wr.cell? ⟨b, k * 7 + 4, none⟩ = some (.int .i64 sx.aim) ∧ wr.cell? ⟨b, k * 7 + 5, none⟩ = some (.slice Ax sx.errs.length cx) ∧ wr.cell? ⟨b, k * 7 + 6, none⟩ = some (.slice Bx sx.steps.length dx) := by
            obtain rfl | rfl : k = 0 ∨ k = 1 := by omega
            · exact ⟨s, A, A', c, c', S1.out.below hb.out (Nat.le_of_lt hbl), PW.cell 0, PW.cell 1, PW.cell 2, PW.cell 3, PW.cell 4, PW.cell 5, PW.cell 6⟩
            · exact ⟨s2, A2, B2, c2, d2, S2.out.below hb.out (Nat.le_of_lt hbl), PW.cell 7, PW.cell 8, PW.cell 9, PW.cell 10, PW.cell 11, PW.cell 12, PW.cell 13⟩
          have i1 : (0 : Int) ≤ (k : Int) := by omega
          have i2 : (k : Int) < 2 := by omega
          have IN := Lib.hid hin
          obtain ⟨Wa, hWa⟩ : ∃ Wa, Wa = wr.alloc (.cells #[.int .i64 sx.start, .int .i64 sx.loc, .int .i64 sx.ppb, .int .i64 sx.liars, .int .i64 sx.aim, .slice Ax sx.errs.length cx, .slice Bx sx.steps.length dx] 25) := ⟨_, rfl⟩
          have Ba := Lib.hid (show Below wr.heap.size wr Wa by rw [hWa]; exact below_alloc (Below.refl _ _) _)
          have Qa := Lib.hid (show Blk Wa wr.heap.size 25 #[.int .i64 sx.start, .int .i64 sx.loc, .int .i64 sx.ppb, .int .i64 sx.liars, .int .i64 sx.aim, .slice Ax sx.errs.length cx, .slice Bx sx.steps.length dx] by rw [hWa]; exact Blk.new _ _ _)
          clear PW hin
          go_wp2_with fail
          rw [← hWa]
          clear hWa c0 c1 c2 c3 c4 c5 c6
          have B0 := Ba
          have Q0 := Qa
          clear Ba Qa
          obtain ⟨x0, x1, x2, x3, x4, x5, x6⟩ := blk7 Q0.out
          refine (rLies_ok sx Ax Bx cx dx _ b (Nat.le_trans (Nat.le_of_lt hbw) B0.out.size) (IN.out.e.keep fun b0 o hlt0 => B0.out.cell (p := ⟨b0, o, none⟩) (Nat.lt_trans hlt0 hbw)) (IN.out.t.keep fun b0 o hlt0 => B0.out.cell (p := ⟨b0, o, none⟩) (Nat.lt_trans hlt0 hbw))).mono ?_
          rintro e w1 ⟨Y1, k1, rfl, r1, bb⟩
          have R1 := Lib.hid r1
          clear r1
          have B1 := Lib.hid (below_then B0.out bb)
          have Q1 := Lib.hid (Q0.out.keep bb)
          clear bb x0 x1 x2 x3 x4 x5 x6 B0 Q0
          have V1 := Q1.out.lt
          obtain ⟨x0, x1, x2, x3, x4, x5, x6⟩ := blk7 Q1.out
          go_wp2_with fail
          refine (rRun_ok sx Ax Bx cx dx _ b (Nat.le_trans (Nat.le_of_lt hbw) B1.out.size) (IN.out.e.keep fun b0 o hlt0 => B1.out.cell (p := ⟨b0, o, none⟩) (Nat.lt_trans hlt0 hbw)) (IN.out.t.keep fun b0 o hlt0 => B1.out.cell (p := ⟨b0, o, none⟩) (Nat.lt_trans hlt0 hbw))).mono ?_
          rintro e w2 ⟨Y2, k2, rfl, r2, bb⟩
          have R1 := Lib.hid ((R1.out.below bb (Nat.le_refl _)).more bb.size)
          have R2 := Lib.hid r2
          clear r2
          have B2 := Lib.hid (below_then B1.out bb)
          have Q2 := Lib.hid (Q1.out.keep bb)
          clear bb x0 x1 x2 x3 x4 x5 x6 B1 Q1
          obtain ⟨x0, x1, x2, x3, x4, x5, x6⟩ := blk7 Q2.out
          go_wp2_with fail
          refine (rCheck_ok sx Ax Bx cx dx _ b (Nat.le_trans (Nat.le_of_lt hbw) B2.out.size) (IN.out.e.keep fun b0 o hlt0 => B2.out.cell (p := ⟨b0, o, none⟩) (Nat.lt_trans hlt0 hbw)) (IN.out.t.keep fun b0 o hlt0 => B2.out.cell (p := ⟨b0, o, none⟩) (Nat.lt_trans hlt0 hbw))).mono ?_
          rintro e w3 ⟨rfl, bb⟩
          have R1 := Lib.hid ((R1.out.below bb (Nat.le_refl _)).more bb.size)
          have R2 := Lib.hid ((R2.out.below bb (Nat.le_refl _)).more bb.size)
          have B3 := Lib.hid (below_then B2.out bb)
          have Q3 := Lib.hid (Q2.out.keep bb)
          clear bb x0 x1 x2 x3 x4 x5 x6 B2 Q2
          obtain ⟨x0, x1, x2, x3, x4, x5, x6⟩ := blk7 Q3.out
          go_wp2_with fail
          refine (copied_ok sx Ax Bx cx dx _ b (Nat.le_trans (Nat.le_of_lt hbw) B3.out.size) (IN.out.e.keep fun b0 o hlt0 => B3.out.cell (p := ⟨b0, o, none⟩) (Nat.lt_trans hlt0 hbw)) (IN.out.t.keep fun b0 o hlt0 => B3.out.cell (p := ⟨b0, o, none⟩) (Nat.lt_trans hlt0 hbw)) IN.out.n IN.out.m).mono ?_
          rintro e w4 ⟨A4, c4, B4x, d4, rfl, r4, s4, bb⟩
          have R1 := Lib.hid ((R1.out.below bb (Nat.le_refl _)).more bb.size)
          have R2 := Lib.hid ((R2.out.below bb (Nat.le_refl _)).more bb.size)
          have R4 := Lib.hid r4
          have S4 := Lib.hid s4
          clear r4 s4
          have B4 := Lib.hid (below_then B3.out bb)
          have Q4 := Lib.hid (Q3.out.keep bb)
          clear bb x0 x1 x2 x3 x4 x5 x6 B3 Q3
          obtain ⟨x0, x1, x2, x3, x4, x5, x6⟩ := blk7 Q4.out
          go_wp2_with fail
          refine (Lies_ok sx A4 B4x c4 d4 _ _ (Nat.le_refl _) R4.out S4.out).mono ?_
          rintro e w5 ⟨Y5, k5, rfl, r5, bb⟩
          clear R4 S4
          have R1 := Lib.hid ((R1.out.below bb (Nat.le_refl _)).more bb.size)
          have R2 := Lib.hid ((R2.out.below bb (Nat.le_refl _)).more bb.size)
          have R5 := Lib.hid r5
          clear r5
          have B5 := Lib.hid (below_then B4.out bb)
          have Q5 := Lib.hid (Q4.out.keep bb)
          clear bb x0 x1 x2 x3 x4 x5 x6 B4 Q4
          obtain ⟨x0, x1, x2, x3, x4, x5, x6⟩ := blk7 Q5.out
          go_wp2_with fail
          refine (copied_ok sx Ax Bx cx dx _ b (Nat.le_trans (Nat.le_of_lt hbw) B5.out.size) (IN.out.e.keep fun b0 o hlt0 => B5.out.cell (p := ⟨b0, o, none⟩) (Nat.lt_trans hlt0 hbw)) (IN.out.t.keep fun b0 o hlt0 => B5.out.cell (p := ⟨b0, o, none⟩) (Nat.lt_trans hlt0 hbw)) IN.out.n IN.out.m).mono ?_
          rintro e w6 ⟨A6, c6, B6x, d6, rfl, r6, s6, bb⟩
          have R1 := Lib.hid ((R1.out.below bb (Nat.le_refl _)).more bb.size)
          have R2 := Lib.hid ((R2.out.below bb (Nat.le_refl _)).more bb.size)
          have R5 := Lib.hid ((R5.out.below bb (Nat.le_refl _)).more bb.size)
          have R6 := Lib.hid r6
          have S6 := Lib.hid s6
          clear r6 s6
          have B6 := Lib.hid (below_then B5.out bb)
          have Q6 := Lib.hid (Q5.out.keep bb)
          clear bb x0 x1 x2 x3 x4 x5 x6 B5 Q5
          obtain ⟨x0, x1, x2, x3, x4, x5, x6⟩ := blk7 Q6.out
          go_wp2_with fail
          refine (Run_ok sx A6 B6x c6 d6 _ _ (Nat.le_refl _) R6.out S6.out).mono ?_
          rintro e w7 ⟨Y7, k7, rfl, r7, bb⟩
          clear R6 S6
          have R1 := Lib.hid ((R1.out.below bb (Nat.le_refl _)).more bb.size)
          have R2 := Lib.hid ((R2.out.below bb (Nat.le_refl _)).more bb.size)
          have R5 := Lib.hid ((R5.out.below bb (Nat.le_refl _)).more bb.size)
          have R7 := Lib.hid r7
          clear r7
          have B7 := Lib.hid (below_then B6.out bb)
          have Q7 := Lib.hid (Q6.out.keep bb)
          clear bb x0 x1 x2 x3 x4 x5 x6 B6 Q6
          obtain ⟨x0, x1, x2, x3, x4, x5, x6⟩ := blk7 Q7.out
          go_wp2_with fail
          refine (copied_ok sx Ax Bx cx dx _ b (Nat.le_trans (Nat.le_of_lt hbw) B7.out.size) (IN.out.e.keep fun b0 o hlt0 => B7.out.cell (p := ⟨b0, o, none⟩) (Nat.lt_trans hlt0 hbw)) (IN.out.t.keep fun b0 o hlt0 => B7.out.cell (p := ⟨b0, o, none⟩) (Nat.lt_trans hlt0 hbw)) IN.out.n IN.out.m).mono ?_
          rintro e w8 ⟨A8, c8, B8x, d8, rfl, r8, s8, bb⟩
          have R1 := Lib.hid ((R1.out.below bb (Nat.le_refl _)).more bb.size)
          have R2 := Lib.hid ((R2.out.below bb (Nat.le_refl _)).more bb.size)
          have R5 := Lib.hid ((R5.out.below bb (Nat.le_refl _)).more bb.size)
          have R7 := Lib.hid ((R7.out.below bb (Nat.le_refl _)).more bb.size)
          have R8 := Lib.hid r8
          have S8 := Lib.hid s8
          clear r8 s8
          have B8 := Lib.hid (below_then B7.out bb)
          have Q8 := Lib.hid (Q7.out.keep bb)
          clear bb x0 x1 x2 x3 x4 x5 x6 B7 Q7
          obtain ⟨x0, x1, x2, x3, x4, x5, x6⟩ := blk7 Q8.out
          go_wp2_with fail
          refine (Check_ok sx A8 B8x c8 d8 _ _ (Nat.le_refl _) R8.out S8.out).mono ?_
          rintro e w9 ⟨rfl, bb⟩
          clear R8 S8
          have R1 := Lib.hid ((R1.out.below bb (Nat.le_refl _)).more bb.size)
          have R2 := Lib.hid ((R2.out.below bb (Nat.le_refl _)).more bb.size)
          have R5 := Lib.hid ((R5.out.below bb (Nat.le_refl _)).more bb.size)
          have R7 := Lib.hid ((R7.out.below bb (Nat.le_refl _)).more bb.size)
          have B9 := Lib.hid (below_then B8.out bb)
          have Q9 := Lib.hid (Q8.out.keep bb)
          clear bb x0 x1 x2 x3 x4 x5 x6 B8 Q8
          obtain ⟨x0, x1, x2, x3, x4, x5, x6⟩ := blk7 Q9.out
          go_wp2_with fail
          refine (SameI_ok Y5 Y1 _ k5 k1 sx.lies _ _ (Nat.le_refl _) R5.out R1.out).mono ?_
          rintro e w10 ⟨rfl, bb⟩
          clear R5 R1
          have R2 := Lib.hid ((R2.out.below bb (Nat.le_refl _)).more bb.size)
          have R7 := Lib.hid ((R7.out.below bb (Nat.le_refl _)).more bb.size)
          have B10 := Lib.hid (below_then B9.out bb)
          have Q10 := Lib.hid (Q9.out.keep bb)
          clear bb x0 x1 x2 x3 x4 x5 x6 B9 Q9
          obtain ⟨x0, x1, x2, x3, x4, x5, x6⟩ := blk7 Q10.out
          go_wp2_with fail
          refine (SameR_ok Y7 Y2 _ k7 k2 sx.run _ _ (Nat.le_refl _) R7.out R2.out).mono ?_
          rintro e w11 ⟨rfl, bb⟩
          clear R7 R2
          have B11 := Lib.hid (below_then B10.out bb)
          have Q11 := Lib.hid (Q10.out.keep bb)
          clear bb x0 x1 x2 x3 x4 x5 x6 B10 Q10
          obtain ⟨x0, x1, x2, x3, x4, x5, x6⟩ := blk7 Q11.out
          go_wp2_with fail
          go_roundg (2 - (k + 1))
          case rel => exact ⟨k + 1, by omega, Nat.le_refl _, by go_num, Lib.hid (below_then hb.out B11.out)⟩
          case measure => omega
        · have t2 : decide ((k : Int) < 2) = false := by simp; omega
          have BZ := Lib.hid (below_then BX.out hb.out)
          go_wp2_with fail
          refine (known_ok wr).mono ?_
          rintro e w1 ⟨rfl, bb⟩
          have B1 := Lib.hid (below_then BZ.out bb)
          clear bb
          go_wp2
          go_ret
          exact ⟨rfl, B1.out⟩
end Go.Proofs.YtnafhblioabkgaaGreat
