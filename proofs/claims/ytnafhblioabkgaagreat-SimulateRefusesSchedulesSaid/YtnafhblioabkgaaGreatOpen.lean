/- A schedule that comes in: its five numbers, and its two lists as they lie in memory. -/
import Derived.Test.YtnafhblioabkgaaGreatMem
import Derived.Deep.Slices
import Derived.Deep.Fields
import Derived.ChangeSame
import Derived.Lib.SmallJoins
import Derived.ProofKit
namespace Go.Proofs.YtnafhblioabkgaaGreat
open Go.Joins Go.ChangeShapes Go.WideShapes Go.RowKit Go.Deep
section
variable {H : Type} {enc : TypeId × Value → H} {P : Program} {w : World} {base : Nat} {spare : Nat → Bool} {held : Bool}
theorem open_rows {t e : TypeId} {fs : Array Field} {fuel : Nat} {cs : List Value} {x : DataW H × List MemPlace} (ht : P.underlying t = some (.slice e)) (he : P.underlying e = some (.struct fs))
    (hone : oneCellFields P fs = true) (hC : P.cellsOf e = fs.size) (h : DataW.trod enc P w base spare held fuel t cs = some x) :
    cs = [.slice none 0 0] ∨
    ∃ (a : Addr) (len cap : Nat), cs = [.slice (some a) len cap] ∧ len ≤ cap ∧ cap ≤ maxLen ∧
      ∀ i, i < len → ∃ (n : Nat), ∀ (j : Nat) (f : Field), fs[j]? = some f → ∃ (v : Value) (y : DataW H × List MemPlace), w.cell? (a.add (i * fs.size + j)) = some v ∧ DataW.trod enc P w base spare held n f.type [v] = some y := by
  rcases open_slice ht h with h0 | ⟨a, len, cap, m, n, D, Pl, hcs, hb, hl, hm, hmm, hx, hi⟩
  · exact .inl h0.1
  · refine .inr ⟨a, len, cap, hcs, hl, hm, fun i hil => ?_⟩
    have him : i < m := by rw [hmm]; split <;> omega
    obtain ⟨cs', hc, ht'⟩ := hi i him
    rw [hC] at hc
    obtain ⟨ys, n', hn', hy, hlen, hyl, hf⟩ := DataW.trod_struct he ht'
    obtain ⟨_, hcl, hat⟩ := World.cells?_some hc
    refine ⟨n', fun j f hj => ?_⟩
    obtain ⟨ho, hk⟩ := hone_of hone j f hj
    have hjl : j < fs.size := (Array.getElem?_eq_some_iff.1 hj).1
    have hcell := hat j hjl
    have hv : cs'[j]? = some (cs'[j]'(by omega)) := List.getElem?_eq_getElem (by omega)
    have h1 := hf j f hj
    rw [ho, hk] at h1
    have hone' : (cs'.drop j).take 1 = [cs'[j]'(by omega)] := by
      rw [List.drop_eq_getElem_cons (by omega)]
      rfl
    rw [hone'] at h1
    have hys : ys[j]? = some (ys[j]'(by omega)) := List.getElem?_eq_getElem (by omega)
    refine ⟨_, _, ?_, h1.trans hys⟩
    rw [← Go.Deep.add_add, hcell, hv]
theorem open_agg7 {r : Reach} {b0 : Nat} {t : TypeId} {f0 f1 f2 f3 f4 f5 f6 : Field} {v : Value} {d : DataW H} {p : List MemPlace} (hs : P.underlying t = some (.struct #[f0, f1, f2, f3, f4, f5, f6])) (hone : oneCellFields P #[f0, f1, f2, f3, f4, f5, f6] = true) (hC : P.cellsOf t = 7)
    (hv : Value.okWide P w r b0 t v) (h : DataW.Trod enc P w base spare held t v d p) :
    ∃ (v0 v1 v2 v3 v4 v5 v6 : Value) (y0 y1 y2 y3 y4 y5 y6 : DataW H × List MemPlace) (n : Nat), v = .agg #[v0, v1, v2, v3, v4, v5, v6] ∧
      DataW.trod enc P w base spare held n f0.type [v0] = some y0 ∧ DataW.trod enc P w base spare held n f1.type [v1] = some y1 ∧ DataW.trod enc P w base spare held n f2.type [v2] = some y2 ∧ DataW.trod enc P w base spare held n f3.type [v3] = some y3 ∧ DataW.trod enc P w base spare held n f4.type [v4] = some y4 ∧ DataW.trod enc P w base spare held n f5.type [v5] = some y5 ∧ DataW.trod enc P w base spare held n f6.type [v6] = some y6 := by
  obtain ⟨cs, rfl, hsz⟩ := okWide_struct hs hv
  obtain ⟨l⟩ := cs
  match l, hsz.trans hC with
  | [c0, c1, c2, c3, c4, c5, c6], _ =>
    obtain ⟨fuel, hf⟩ := h
    obtain ⟨xs, n, _, hx, _, hlen, hg⟩ := DataW.trod_struct hs hf
    obtain ⟨o0, k0⟩ := hone_of hone 0 f0 rfl
    obtain ⟨o1, k1⟩ := hone_of hone 1 f1 rfl
    obtain ⟨o2, k2⟩ := hone_of hone 2 f2 rfl
    obtain ⟨o3, k3⟩ := hone_of hone 3 f3 rfl
    obtain ⟨o4, k4⟩ := hone_of hone 4 f4 rfl
    obtain ⟨o5, k5⟩ := hone_of hone 5 f5 rfl
    obtain ⟨o6, k6⟩ := hone_of hone 6 f6 rfl
    match xs, hlen with
    | [y0, y1, y2, y3, y4, y5, y6], _ =>
      exact ⟨c0, c1, c2, c3, c4, c5, c6, y0, y1, y2, y3, y4, y5, y6, n, rfl, by simpa [Value.cells, o0, k0] using hg 0 f0 rfl, by simpa [Value.cells, o1, k1] using hg 1 f1 rfl, by simpa [Value.cells, o2, k2] using hg 2 f2 rfl, by simpa [Value.cells, o3, k3] using hg 3 f3 rfl, by simpa [Value.cells, o4, k4] using hg 4 f4 rfl, by simpa [Value.cells, o5, k5] using hg 5 f5 rfl, by simpa [Value.cells, o6, k6] using hg 6 f6 rfl⟩
end

theorem add_none {w : World} {a : Addr} {v : Value} {i : Nat} (h : w.cell? (a.add i) = some v) (h0 : ∃ u, w.cell? (a.add 0) = some u) : ∃ b off, a = ⟨b, off, none⟩ ∧ b < w.heap.size ∧ w.cell? ⟨b, off + i, none⟩ = some v := by
  obtain ⟨u, h0⟩ := h0
  have hs : a.spot = none := by simpa [Addr.add] using World.cell?_spot h0
  obtain ⟨b, off, sp⟩ := a
  subst hs
  have hadd : (⟨b, off, none⟩ : Addr).add i = ⟨b, off + i, none⟩ := by unfold Addr.add; split <;> simp_all
  rw [hadd] at h
  exact ⟨b, off, rfl, World.block_lt_of_cell? w _ h, h⟩
/-- A slice whose elements lie in k cells each reads as a list. -/
theorem RdL.make {α : Type} (enc : α → List Value) (k : Nat) (w : World) (a : Addr) (n : Nat) (zs : List α) (hl : zs.length = n) (hn : n ≤ 4611686018427387904) (hk : ∀ x, (enc x).length = k) (h0 : 0 < k)
    (h : ∀ i x, zs[i]? = some x → ∀ j u, (enc x)[j]? = some u → w.cell? (a.add (i * k + j)) = some u) : RdL enc k w w.heap.size (some a) n zs := by
  refine ⟨hl, hn, fun hp => ?_⟩
  have hz : zs[0]? = some (zs[0]'(by omega)) := List.getElem?_eq_getElem (by omega)
  have he : (enc (zs[0]'(by omega)))[0]? = some ((enc (zs[0]'(by omega)))[0]'(by rw [hk]; omega)) := List.getElem?_eq_getElem (by rw [hk]; omega)
  have hc0 := h 0 _ hz 0 _ he
  simp only [Nat.zero_mul, Nat.zero_add] at hc0
  obtain ⟨b, off, rfl, hb, _⟩ := add_none hc0 ⟨_, hc0⟩
  refine ⟨b, off, rfl, hb, fun i x hx j u hu => ?_⟩
  have h2 := h i x hx j u hu
  have hadd : (⟨b, off, none⟩ : Addr).add (i * k + j) = ⟨b, off + (i * k + j), none⟩ := by unfold Addr.add; split <;> simp_all
  rw [hadd, ← Nat.add_assoc] at h2
  exact h2

theorem okInts {H : Type} {enc : TypeId × Value → H} {W : World} {base : Nat} {spare : Nat → Bool} {held : Bool} {v : Value} {fuel : Nat} {x : DataW H × List MemPlace} (h : DataW.trod enc Tryz.prog W base spare held fuel 22 [v] = some x) :
    ∃ (A : Option Addr) (c : Nat) (l : List Int), v = .slice A l.length c ∧ l.length ≤ c ∧ (∀ n ∈ l, (Lit.int .i64 n).wf = true) ∧ (l.length ≤ 4611686018427387904 → RdL encI 1 W W.heap.size A l.length l) := by
  rcases open_ints Tryz.underlying22 Tryz.underlying3 (by kernel_rfl) h with ⟨hcs, _⟩ | ⟨a, l, c, zs, hcs, _, hl, hm, hz, _, hcell, hwz⟩
  · simp only [List.cons.injEq, and_true] at hcs
    subst hcs
    exact ⟨none, 0, [], rfl, Nat.le_refl _, by simp, fun _ => RdL.nil _ _ _ _ _⟩
  · simp only [List.cons.injEq, and_true] at hcs
    subst hcs
    have hzl : l ≤ zs.length := by rw [hz]; split <;> omega
    have hlen : (zs.take l).length = l := by rw [List.length_take]; omega
    unfold maxLen at hm
    refine ⟨some a, c, zs.take l, by rw [hlen], by omega, fun n hn => hwz n (List.mem_of_mem_take hn), fun hbig => RdL.make encI 1 W a _ _ rfl hbig (fun _ => rfl) (by decide) fun i x hx j u hu => ?_⟩
    have hi : i < l := by
      rw [← hlen]
      exact (List.getElem?_eq_some_iff.1 hx).1
    rw [List.getElem?_take_of_lt hi] at hx
    match j, hu with
    | 0, hu =>
      cases hu
      have := hcell i (by omega)
      rw [Nat.mul_one, Nat.add_zero, this, List.getD_eq_getElem?_getD, hx]
      rfl
def mkStp (g : Nat → Int) : Stp := ⟨g 0, g 1, g 2, g 3, g 4, g 5, g 6, g 7, g 8, g 9, g 10⟩
theorem encStp_mk (g : Nat → Int) (j : Nat) (u : Value) (h : (encStp (mkStp g))[j]? = some u) : j < 11 ∧ u = .int .i64 (g j) := by
  match j, h with
  | 0, h => cases h; exact ⟨by decide, rfl⟩
  | 1, h => cases h; exact ⟨by decide, rfl⟩
  | 2, h => cases h; exact ⟨by decide, rfl⟩
  | 3, h => cases h; exact ⟨by decide, rfl⟩
  | 4, h => cases h; exact ⟨by decide, rfl⟩
  | 5, h => cases h; exact ⟨by decide, rfl⟩
  | 6, h => cases h; exact ⟨by decide, rfl⟩
  | 7, h => cases h; exact ⟨by decide, rfl⟩
  | 8, h => cases h; exact ⟨by decide, rfl⟩
  | 9, h => cases h; exact ⟨by decide, rfl⟩
  | 10, h => cases h; exact ⟨by decide, rfl⟩
theorem okSteps {H : Type} {enc : TypeId × Value → H} {W : World} {base : Nat} {spare : Nat → Bool} {held : Bool} {v : Value} {fuel : Nat} {x : DataW H × List MemPlace} (h : DataW.trod enc Tryz.prog W base spare held fuel 23 [v] = some x) :
    ∃ (A : Option Addr) (c : Nat) (l : List Stp), v = .slice A l.length c ∧ l.length ≤ c ∧ (l.length ≤ 4611686018427387904 → RdL encStp 11 W W.heap.size A l.length l) := by
  rcases open_rows Tryz.underlying23 Tryz.underlying45 (by kernel_rfl) (by kernel_rfl) h with hcs | ⟨a, l, c, hcs, hl, hm, hf⟩
  · simp only [List.cons.injEq, and_true] at hcs
    subst hcs
    exact ⟨none, 0, [], rfl, Nat.le_refl _, fun _ => RdL.nil _ _ _ _ _⟩
  · simp only [List.cons.injEq, and_true] at hcs
    subst hcs
    have hg : ∀ i, i < l → ∀ j, j < 11 → ∃ n : Int, W.cell? (a.add (i * 11 + j)) = some (.int .i64 n) := by
      intro i hi j hj
      obtain ⟨n, hn⟩ := hf i hi
      obtain ⟨f, hfj, hft⟩ : ∃ f, (#[
        { name := "Source", type := 3, offset := 0, embedded := false, tag := "", pkgPath := "", byteOffset := 0 },
        { name := "True", type := 3, offset := 1, embedded := false, tag := "", pkgPath := "", byteOffset := 8 },
        { name := "Local", type := 3, offset := 2, embedded := false, tag := "", pkgPath := "", byteOffset := 16 },
        { name := "Out", type := 3, offset := 3, embedded := false, tag := "", pkgPath := "", byteOffset := 24 },
        { name := "OutLocal", type := 3, offset := 4, embedded := false, tag := "", pkgPath := "", byteOffset := 32 },
        { name := "Hold", type := 3, offset := 5, embedded := false, tag := "", pkgPath := "", byteOffset := 40 },
        { name := "HoldLocal", type := 3, offset := 6, embedded := false, tag := "", pkgPath := "", byteOffset := 48 },
        { name := "Back", type := 3, offset := 7, embedded := false, tag := "", pkgPath := "", byteOffset := 56 },
        { name := "BackLocal", type := 3, offset := 8, embedded := false, tag := "", pkgPath := "", byteOffset := 64 },
        { name := "Wrong2", type := 3, offset := 9, embedded := false, tag := "", pkgPath := "", byteOffset := 72 },
        { name := "Wrong3", type := 3, offset := 10, embedded := false, tag := "", pkgPath := "", byteOffset := 80 }] : Array Field)[j]? = some f ∧ f.type = 3 := by
        obtain rfl | rfl | rfl | rfl | rfl | rfl | rfl | rfl | rfl | rfl | rfl : j = 0 ∨ j = 1 ∨ j = 2 ∨ j = 3 ∨ j = 4 ∨ j = 5 ∨ j = 6 ∨ j = 7 ∨ j = 8 ∨ j = 9 ∨ j = 10 := by omega
        all_goals exact ⟨_, rfl, rfl⟩
      obtain ⟨v, y, hc, ht⟩ := hn j f hfj
      rw [hft] at ht
      obtain ⟨m, hm, _⟩ := DataW.trod_int Tryz.underlying3 ht
      simp only [List.cons.injEq, and_true] at hm
      subst hm
      exact ⟨m, hc⟩
    let g : Nat → Nat → Int := fun i j => if h : i < l ∧ j < 11 then (hg i h.1 j h.2).choose else 0
    have hgs : ∀ i, i < l → ∀ j, j < 11 → W.cell? (a.add (i * 11 + j)) = some (.int .i64 (g i j)) := by
      intro i hi j hj
      have : g i j = (hg i hi j hj).choose := by simp only [g]; rw [dif_pos ⟨hi, hj⟩]
      rw [this]
      exact (hg i hi j hj).choose_spec
    unfold maxLen at hm
    have hlen : ((List.range l).map fun i => mkStp (g i)).length = l := by simp
    refine ⟨some a, c, (List.range l).map fun i => mkStp (g i), by rw [hlen], by omega, fun hbig => RdL.make encStp 11 W a _ _ rfl hbig (fun _ => rfl) (by decide) fun i x hx j u hu => ?_⟩
    have hi : i < l := by
      rw [← hlen]
      exact (List.getElem?_eq_some_iff.1 hx).1
    rw [List.getElem?_map, List.getElem?_range hi] at hx
    cases hx
    obtain ⟨hj, rfl⟩ := encStp_mk (g i) j u hu
    exact hgs i hi j hj
set_option maxRecDepth 100000 in
theorem ints_of {H : Type} {enc : TypeId × Value → H} {W : World} {r : Reach} {b0 base : Nat} {spare : Nat → Bool} {held : Bool} {v : Value} {d : DataW H} {p : List MemPlace} (hv : Value.okWide Tryz.prog W r b0 22 v) (h : DataW.Trod enc Tryz.prog W base spare held 22 v d p) :
    ∃ (A : Option Addr) (c : Nat) (l : List Int), v = .slice A l.length c ∧ (l.length ≤ 4611686018427387904 → RdL encI 1 W W.heap.size A l.length l) := by
  obtain ⟨a0, len0, cap0, rfl⟩ := okWide_slice Tryz.underlying22 hv
  obtain ⟨fuel, hf⟩ := h
  obtain ⟨A, c, l, e, _, _, hr⟩ := okInts (v := .slice a0 len0 cap0) (by simpa [Value.cells] using hf)
  exact ⟨A, c, l, e, hr⟩
set_option maxRecDepth 100000 in
theorem sched_of {H : Type} {enc : TypeId × Value → H} {W : World} {r : Reach} {b0 base : Nat} {spare : Nat → Bool} {held : Bool} {v : Value} {d : DataW H} {p : List MemPlace} (hv : Value.okWide Tryz.prog W r b0 25 v) (h : DataW.Trod enc Tryz.prog W base spare held 25 v d p) :
    ∃ (s : Sch) (A A' : Option Addr) (c c' : Nat), v = .agg #[.int .i64 s.start, .int .i64 s.loc, .int .i64 s.ppb, .int .i64 s.liars, .int .i64 s.aim, .slice A s.errs.length c, .slice A' s.steps.length c'] ∧ (s.errs.length ≤ 20 ∧ s.steps.length ≤ 65 → RdL encI 1 W W.heap.size A s.errs.length s.errs ∧ RdL encStp 11 W W.heap.size A' s.steps.length s.steps) := by
  obtain ⟨v0, v1, v2, v3, v4, v5, v6, y0, y1, y2, y3, y4, y5, y6, n, rfl, g0, g1, g2, g3, g4, g5, g6⟩ := open_agg7 Tryz.underlying25 (by kernel_rfl) (by kernel_rfl) hv h
  obtain ⟨n0, e0, -, -⟩ := DataW.trod_int Tryz.underlying3 g0
  obtain ⟨n1, e1, -, -⟩ := DataW.trod_int Tryz.underlying3 g1
  obtain ⟨n2, e2, -, -⟩ := DataW.trod_int Tryz.underlying3 g2
  obtain ⟨n3, e3, -, -⟩ := DataW.trod_int Tryz.underlying3 g3
  obtain ⟨n4, e4, -, -⟩ := DataW.trod_int Tryz.underlying3 g4
  simp only [List.cons.injEq, and_true] at e0 e1 e2 e3 e4
  subst e0 e1 e2 e3 e4
  obtain ⟨A, c, l, rfl, _, _, h5⟩ := okInts g5
  obtain ⟨A', c', l', rfl, _, h6⟩ := okSteps g6
  exact ⟨⟨n0, n1, n2, n3, n4, l, l'⟩, A, A', c, c', rfl, fun hs => ⟨h5 (Nat.le_trans hs.1 (by decide)), h6 (Nat.le_trans hs.2 (by decide))⟩⟩
end Go.Proofs.YtnafhblioabkgaaGreat
