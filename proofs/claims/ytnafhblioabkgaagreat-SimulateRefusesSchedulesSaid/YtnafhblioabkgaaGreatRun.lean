/- simulate.Run: what a client reports behind each step. -/
import Derived.Test.YtnafhblioabkgaaGreatReport
namespace Go.Proofs.YtnafhblioabkgaaGreat
open Go.RowKit

theorem At_ok (m : Sm) (p : Int) (w : World) (h : m.good) (p0 : 0 ≤ p) (p1 : p ≤ 1000000) :
    Calls Tryz.prog 31 #[.agg #[.int .i64 m.t1, .int .i64 m.t2, .int .i64 m.t3, .int .i64 m.t4, .int .i64 m.err], .int .i64 p] w fun e w' => e = .returned (.tuple #[.agg #[.int .i64 (if m.code p = 0 then m.lo else 0), .int .i64 (if m.code p = 0 then m.hi p else 0)], .int .i64 (m.code p)]) ∧ Below w.heap.size w w' := by
  unfold Sm.code
  by_cases h1 : m.t3 < m.t2
  · simp only [h1, if_true]
    exact At_order m p w h p0 p1 h1
  · by_cases h2 : m.hi p < m.lo
    · simp only [h1, h2, if_true, if_false]
      exact At_sample m p w h p0 p1 h1 h2
    · simp only [h1, h2, if_false, if_true]
      exact At_span m p w h p0 p1 h1 h2
theorem Only.grown {a b : Nat} {w W W' : World} {row : Option Nat} (h : Only a b w W) (hg : W.grownBy W' row) (hr : ∀ k, row = some k → w.heap.size ≤ k) : Only a b w W' :=
  ⟨hg.os.trans h.os, hg.tape.trans h.tape, hg.output.trans h.output, Nat.le_trans h.size hg.size, fun k hk ha hb => (hg.block k (Nat.lt_of_lt_of_le hk h.size) (fun e => by have := hr k e.symm; omega)).trans (h.block k hk ha hb)⟩
theorem Blk.grown {w w' : World} {g : Nat} {t : TypeId} {cs : Array Value} {row : Option Nat} (h : Blk w g t cs) (hg : w.grownBy w' row) (hr : ∀ k, row = some k → k ≠ g) : Blk w' g t cs :=
  (hg.block g h.lt (fun e => hr g e.symm rfl)).trans h
theorem merged_src (q : Pl) (s : Sch) : (q.merged s).src = q.src := by unfold Pl.merged; split <;> rfl
theorem seen_src (q : Pl) : q.seen.src = q.src := by unfold Pl.seen; split <;> rfl
theorem infoRp : (Tryz.prog.info? 55).map (fun i => (i.zero, i.size, i.bytes)) = some (some (vRp ⟨0, 0, false, 0, 0, ⟨0, 0, false, false, 0, 0⟩⟩), 11, 80) := by kernel_rfl
theorem own_only {w w' : World} {a b B e size n : Nat} {v : Value} {xs : List Value} (h : w.ownsRow B e size v n xs) (ho : Only a b w w') (ha : a < B) (hb : b < B) : w'.ownsRow B e size v n xs :=
  ⟨h.1, h.2.imp id fun ⟨g, cap, cur, e1, hg, hgg, rest⟩ => ⟨g, cap, cur, e1, hg, (ho.block g (Array.getElem?_eq_some_iff.1 hgg).1 (by omega) (by omega)).trans hgg, rest⟩⟩
/-- A source's knowledge within the sources' block. -/
theorem src_split {src : List (Option Kn)} {i : Nat} (hi : i < src.length) : src.flatMap encKw = (src.take i).flatMap encKw ++ (encKw (src.getD i none) ++ (src.drop (i + 1)).flatMap encKw) ∧ ((src.take i).flatMap encKw).length = i * 7 ∧ ∀ o, (src.set i o).flatMap encKw = (src.take i).flatMap encKw ++ (encKw o ++ (src.drop (i + 1)).flatMap encKw) := by
  have hg : src.getD i none = src[i] := by rw [List.getD_eq_getElem?_getD, List.getElem?_eq_getElem hi]; rfl
  have hl : ∀ l : List (Option Kn), (l.flatMap encKw).length = l.length * 7 := by
    intro l
    induction l with
    | nil => rfl
    | cons x r ih => rw [List.flatMap_cons, List.length_append, ih, encKw_len, List.length_cons]; omega
  refine ⟨?_, by rw [hl, List.length_take, Nat.min_eq_left (by omega)], fun o => ?_⟩
  · conv => lhs; rw [← List.take_append_drop i src, List.drop_eq_getElem_cons hi]
    rw [List.flatMap_append, List.flatMap_cons, hg]
  · rw [List.set_eq_take_append_cons_drop, if_pos hi, List.flatMap_append, List.flatMap_cons]
theorem src_take (s : Sch) (q : Pl) (gs i : Nat) (T : TypeId) (j : Nat) (lo hi : Int) (w : World) (hj : j ≤ 64) (hs : s.ok) (hq : q.good s j) (h : okS lo hi = true) (hi' : i < s.errs.length) (hb : Blk w gs T (q.src.flatMap encKw).toArray) :
    Calls Tryz.prog 33 #[.pointer (some ⟨gs, i * 7, none⟩), .int .i64 q.r, .agg #[.int .i64 lo, .int .i64 hi], .int .i64 s.ppb] w fun e w' =>
      e = .returned (.tuple #[]) ∧ Blk w' gs T ((q.hear i lo hi s.ppb).src.flatMap encKw).toArray ∧ Only gs gs w w' := by
  obtain ⟨e1, e2, e3⟩ := src_split (show i < q.src.length by rw [hq.n]; exact hi')
  rw [e1] at hb
  have := take_ok _ _ _ gs (i * 7) T q.r lo hi s.ppb w e2 hb h (okT_mk (by have := hq.r0; omega) (by have := hq.r1; omega)) hs.p0 hs.p1 (fun k hk => ((hq.src k (getD_mem hk)).at hs.p0 hs.p1 (by omega) (Int.le_refl _) (by have := hq.r1; omega)).1)
  refine this.mono ?_
  rintro e w' ⟨h1, h2, h3⟩
  refine ⟨h1, ?_, h3⟩
  show Blk w' gs T ((q.src.set i _).flatMap encKw).toArray
  rw [e3]
  exact h2

theorem make_src (n : Nat) (h1 : 1 ≤ n) (h8 : n ≤ 8) (w : World) : (Instr.makeSlice 80 (.int .i64 (n : Int)) (.int .i64 (n : Int))).run Tryz.prog w = .ok (.slice (some ⟨w.heap.size, 0, none⟩) n n) (w.alloc (.cells ((List.replicate n (none : Option Kn)).flatMap encKw).toArray 82)) := by
  have h : n = 1 ∨ n = 2 ∨ n = 3 ∨ n = 4 ∨ n = 5 ∨ n = 6 ∨ n = 7 ∨ n = 8 := by omega
  clear h1 h8
  rcases h with rfl | rfl | rfl | rfl | rfl | rfl | rfl | rfl <;> (refine Eq.trans (b := Result.ok _ _) ?_ rfl; kernel_rfl)

theorem s12 {w : World} {g h : Nat} {t : TypeId} {x : Stp} {p : Int} (X : Blk w g t #[.int .i64 x.src, .int .i64 x.tru, .int .i64 x.loc, .int .i64 x.out, .int .i64 x.outL, .int .i64 x.hold, .int .i64 x.holdL, .int .i64 x.back, .int .i64 x.backL, .int .i64 x.w2, .int .i64 x.w3]) (G : w.cell? ⟨h, 2, none⟩ = some (.int .i64 p)) : w.cell? ⟨g, 0, none⟩ = some (.int .i64 x.src) ∧ w.cell? ⟨g, 1, none⟩ = some (.int .i64 x.tru) ∧ w.cell? ⟨g, 2, none⟩ = some (.int .i64 x.loc) ∧ w.cell? ⟨g, 3, none⟩ = some (.int .i64 x.out) ∧ w.cell? ⟨g, 4, none⟩ = some (.int .i64 x.outL) ∧ w.cell? ⟨g, 5, none⟩ = some (.int .i64 x.hold) ∧ w.cell? ⟨g, 6, none⟩ = some (.int .i64 x.holdL) ∧ w.cell? ⟨g, 7, none⟩ = some (.int .i64 x.back) ∧ w.cell? ⟨g, 8, none⟩ = some (.int .i64 x.backL) ∧ w.cell? ⟨g, 9, none⟩ = some (.int .i64 x.w2) ∧ w.cell? ⟨g, 10, none⟩ = some (.int .i64 x.w3) ∧ w.cell? ⟨h, 2, none⟩ = some (.int .i64 p) :=
  ⟨X.cell 0, X.cell 1, X.cell 2, X.cell 3, X.cell 4, X.cell 5, X.cell 6, X.cell 7, X.cell 8, X.cell 9, X.cell 10, G⟩
def RunPost (s : Sch) (w : World) (e : Ending) (w' : World) : Prop :=
  ∃ A c, e = .returned (.tuple #[.slice A s.run.length c, .int .i64 s.code]) ∧ RdL encRp 11 w' w'.heap.size A s.run.length s.run ∧ Below w.heap.size w w'
set_option maxHeartbeats 4000000 in
set_option maxRecDepth 100000 in
theorem Run_ok (s : Sch) (A A' : Option Addr) (c c' : Nat) (w : World) (B : Nat) (hB : B ≤ w.heap.size) (he : RdL encI 1 w B A s.errs.length s.errs) (hs : RdL encStp 11 w B A' s.steps.length s.steps) :
    Calls Tryz.prog 14 #[vSch s A c A' c'] w (RunPost s w) := by
  obtain ⟨i0, hi, hz0, hz1, hz2⟩ := info_parts infoRp
  obtain ⟨R, hR0⟩ : ∃ R, s.run = R := ⟨_, rfl⟩
  obtain ⟨q, hq0⟩ : ∃ q, s.code = q := ⟨_, rfl⟩
  have C := Lib.hid fun (W : World) (hb : Below w.heap.size w W) => Check_ok s A A' c c' W B (Nat.le_trans hB hb.size) (he.below hb hB) (hs.below hb hB)
  have P : ∀ e w', RunPost s w e w' ↔ ∃ A c, e = .returned (.tuple #[.slice A R.length c, .int .i64 q]) ∧ RdL encRp 11 w' w'.heap.size A R.length R ∧ Below w.heap.size w w' := fun e w' => by unfold RunPost; rw [hR0, hq0]
  have P' := Lib.hid P
  clear P
  generalize hP : RunPost s w = PP at *
  clear hP
  have hst' := Lib.hid (show q = 0 → s.ok from fun h => Sch.code_ok (hq0.trans h))
  have hR := Lib.hid hR0
  have he' := Lib.hid he
  have hs' := Lib.hid hs
  have hq := Lib.hid hq0
  clear hR0 he hs hq0
  simp only [hq.out] at C
  by_cases hq1 : q = 0
  · subst hq1
    have ok := Lib.hid (hst'.out rfl)
    have hRR := Lib.hid (show runL s s.steps s.init = R by rw [← hR.out]; unfold Sch.run; rw [if_pos hq.out])
    have hn := ok.out.n1
    have hm := ok.out.m
    clear hst' hR hq
    dsimp only [vSch] at *
    go_enter Tryz.func14, Tryz.ntmps14
    go_wp2_with fail
    refine (C.out _ (below_alloc (Below.refl _ _) _)).mono ?_
    rintro e w1 ⟨rfl, hb1⟩
    have G0 := Lib.hid ((Blk.new w _ _).keep hb1)
    have hB1 := Lib.hid (below_then (below_alloc (Below.refl _ _) _) hb1)
    have hw1 : w.heap.size < w1.heap.size := by have := hb1.size; simp at this; omega
    clear hb1 C
    have hmk := make_src s.errs.length ok.out.n0 ok.out.n1
    obtain ⟨z0, z1, z2, z3, z4, z5, z6⟩ := blk7 G0.out
    have nz := World.new_ne w1 _ z0
    dsimp only at nz
    have nz' : w1.heap.size + 1 ≠ w.heap.size := by omega
    go_wp2_with fail
    go_region_held3 (fun w' => w'.cell? ⟨w.heap.size, 0, none⟩ = some (.int .i64 s.start) ∧ w'.cell? ⟨w.heap.size, 1, none⟩ = some (.int .i64 s.loc) ∧ w'.cell? ⟨w.heap.size, 2, none⟩ = some (.int .i64 s.ppb) ∧ w'.cell? ⟨w.heap.size, 3, none⟩ = some (.int .i64 s.liars) ∧ w'.cell? ⟨w.heap.size, 4, none⟩ = some (.int .i64 s.aim) ∧ w'.cell? ⟨w.heap.size, 5, none⟩ = some (.slice A s.errs.length c) ∧ w'.cell? ⟨w.heap.size, 6, none⟩ = some (.slice A' s.steps.length c')) (go_keep) (fail)
    generalize hW4 : ((w1.alloc (.cells ((List.replicate s.errs.length (none : Option Kn)).flatMap encKw).toArray 82)).alloc (.cells #[.int .i64 s.start, .int .i64 s.loc, .int .i64 s.ppb, .int .i64 s.liars, .int .i64 s.aim, .slice A s.errs.length c, .slice A' s.steps.length c', .int .i64 s.start, .int .i64 s.loc, .slice (some ⟨w1.heap.size, 0, none⟩) s.errs.length s.errs.length, .bool false, .int .i64 0, .int .i64 0, .int .i64 0, .int .i64 0, .int .i64 0, .int .i64 0, .int .i64 s.aim, .int .i64 1000000, .bool false, .bool false, .int .i64 0, .int .i64 0] 84)).drew = W4
    have B4 : Below w1.heap.size w1 W4 := by rw [← hW4]; exact below_drew (below_alloc (below_alloc (Below.refl _ _) _) _)
    have K0 := Lib.hid (show Blk W4 w1.heap.size 82 (s.init.src.flatMap encKw).toArray by rw [← hW4]; exact ((Blk.new w1 _ _).alloc _).drew)
    have K1 := Lib.hid (show Blk W4 (w1.heap.size + 1) 84 (plC s A c A' c' (.slice (some ⟨w1.heap.size, 0, none⟩) s.errs.length s.errs.length) s.init).toArray by rw [← hW4]; exact (Blk.new1 w1 _ _ _).drew)
    have hs4 : w1.heap.size + 2 = W4.heap.size := by rw [← hW4]; simp
    have G4 := Lib.hid (G0.out.keep B4)
    have hB4 := Lib.hid (below_then hB1.out B4)
    generalize hgs : w1.heap.size = gs at *
    clear hW4 B4 hmk G0 hB1 z0 z1 z2 z3 z4 z5 z6 nz nz'
    generalize hm' : s.steps.length = m at *
    have hm2 := Lib.hid hm'
    clear hm'
    have z6 : W4.cell? ⟨w.heap.size, 6, none⟩ = some (.slice A' m c') := G4.out.cell 6
    go_wp2_with fail
    go_loopg [6, 8, 9, 10, 33] m (fun gg v _ _ _ s33 wr => ∃ (k : Nat) (out : List Rp) (q : Pl), k ≤ m ∧ m - k ≤ gg ∧ s33 = .int .i64 k ∧ Hid (out.length = k) ∧ Hid (q.good s k) ∧ Hid (Blk wr gs 82 (q.src.flatMap encKw).toArray) ∧ Hid (Blk wr (gs + 1) 84 (plC s A c A' c' (.slice (some ⟨gs, 0, none⟩) s.errs.length s.errs.length) q).toArray) ∧
      Hid (wr.ownsRow W4.heap.size 55 11 v k (out.flatMap encRp)) ∧ Hid (Only gs (gs + 1) W4 wr) ∧ Hid (out ++ runL s (s.steps.drop k) q = R))
    case atStart => exact ⟨0, [], s.init, Nat.zero_le _, by omega, rfl, Lib.hid rfl, Lib.hid (s.init_good ok.out), K0, K1, Lib.hid (World.ownsRow_nil _ _ _ _), Lib.hid (Only.refl _ _ _), Lib.hid (by simpa using hRR.out)⟩
    case round =>
      obtain ⟨k, out, q, hk, hgg, rfl, hlen, hq', Hs, Hp, ho, hO, hRk⟩ := hrel
      by_cases hlt : k < m
      · have hBr := Lib.hid (Only.below hB4.out hO.out (by omega) (by omega))
        obtain ⟨b, off, x, rfl, hbB, hz, hd, c0, c1, c2, c3, c4, c5, c6, c7, c8, c9, c10⟩ := (hs'.out.below hBr.out hB).getStp hlt
        have hx := ok.out.st x (List.mem_of_getElem? hz)
        have hx' := Lib.hid hx
        have hsrc : x.src.toNat < s.errs.length := by have := hx.s0; have := hx.s1; omega
        have e0 : 0 ≤ s.errs.getD x.src.toNat 0 ∧ s.errs.getD x.src.toNat 0 ≤ 1125899906842624 := ok.out.e _ (by rw [List.getD_eq_getElem?_getD, List.getElem?_eq_getElem hsrc]; exact List.getElem_mem hsrc)
        have hmg := hq'.out.sm (by omega) hx e0.1 e0.2
        have AT := Lib.hid fun W => At_ok (q.sm x (s.errs.getD x.src.toNat 0)) s.ppb W hmg ok.out.p0 ok.out.p1
        have AK := Lib.hid fun (W : World) (hW : Below w.heap.size w W) (h : Blk W (gs + 1) 84 (plC s A c (some ⟨b, off, none⟩) c' (.slice (some ⟨gs, 0, none⟩) s.errs.length s.errs.length) q).toArray) => ask_ok s A _ c c' _ q (gs + 1) _ x W B k (by omega) hq'.out hx (by omega) (he'.out.below hW hB) h
        have hmv := Lib.hid (hq'.out.moved hx)
        have hhd := Lib.hid (hq'.out.heard ok.out (by omega) hx e0.1 e0.2)
        have hHD := Lib.hid (show q.heard s x = if (q.sm x (s.errs.getD x.src.toNat 0)).code s.ppb = 0 then (q.moved x).hear x.src.toNat (q.sm x (s.errs.getD x.src.toNat 0)).lo ((q.sm x (s.errs.getD x.src.toNat 0)).hi s.ppb) s.ppb else q.moved x from rfl)
        have hRx : Hid (out ++ ((((q.heard s x).merged s).seen.rp) :: runL s (s.steps.drop (k + 1)) ((q.heard s x).merged s).seen) = R) := Lib.hid (by rw [← hRk.out, hd]; rfl)
        have hxl := Lib.hid (show (q.sm x (s.errs.getD x.src.toNat 0)).code s.ppb = 0 → okS (q.sm x (s.errs.getD x.src.toNat 0)).lo ((q.sm x (s.errs.getD x.src.toNat 0)).hi s.ppb) = true from fun h => by
          have hb := Sm.hi_le hmg ok.out.p0 ok.out.p1
          unfold Sm.code at h
          split at h
          · omega
          · split at h
            · omega
            · exact okS_mk (by omega) (by omega) (by omega))
        have hms := Lib.hid (show (q.moved x).src = q.src from rfl)
        generalize hqm : q.moved x = qm at *
        generalize he0' : s.errs.getD x.src.toNat 0 = e1 at *
        generalize hsm : q.sm x e1 = sm at *
        have hse : e1 = sm.err := by rw [← hsm]; rfl
        subst hse
        have hsm' := Lib.hid hsm
        clear hsm he0'
        obtain ⟨al, hal⟩ : ∃ al, (if sm.code s.ppb = 0 then sm.lo else 0) = al := ⟨_, rfl⟩
        obtain ⟨ah, hah⟩ : ∃ ah, (if sm.code s.ppb = 0 then sm.hi s.ppb else 0) = ah := ⟨_, rfl⟩
        obtain ⟨ac, hac⟩ : ∃ ac, sm.code s.ppb = ac := ⟨_, rfl⟩
        simp only [hal, hah] at AT
        simp only [hac] at AT
        replace hal := Lib.hid hal
        replace hah := Lib.hid hah
        replace hac := Lib.hid hac
        obtain ⟨W5, hW5⟩ : ∃ W5, W5 = wr.alloc (.cells #[.int .i64 x.src, .int .i64 x.tru, .int .i64 x.loc, .int .i64 x.out, .int .i64 x.outL, .int .i64 x.hold, .int .i64 x.holdL, .int .i64 x.back, .int .i64 x.backL, .int .i64 x.w2, .int .i64 x.w3] 45) := ⟨_, rfl⟩
        have B5 : Below wr.heap.size wr W5 := by rw [hW5]; exact below_alloc (Below.refl _ _) _
        have X5 := Lib.hid (show Blk W5 wr.heap.size 45 #[.int .i64 x.src, .int .i64 x.tru, .int .i64 x.loc, .int .i64 x.out, .int .i64 x.outL, .int .i64 x.hold, .int .i64 x.holdL, .int .i64 x.back, .int .i64 x.backL, .int .i64 x.w2, .int .i64 x.w3] by rw [hW5]; exact Blk.new _ _ _)
        have hs5 : W5.heap.size = wr.heap.size + 1 := by rw [hW5]; simp
        have Hs5 := Lib.hid (show Blk W5 gs 82 (qm.src.flatMap encKw).toArray by rw [hms.out]; exact Hs.out.keep B5)
        have Hp5 := Lib.hid (Hp.out.keep B5)
        have O5 := Lib.hid (hO.out.then B5)
        have hB5 := Lib.hid (below_then hBr.out B5)
        have ho5 := Lib.hid (own_below ho.out B5)
        have G5 := Lib.hid ((G4.out.keepO hO.out (by omega) (by omega)).keep B5)
        have hgr : gs + 1 < wr.heap.size := Hp.out.lt
        have hp5 : W5.cell? ⟨w.heap.size, 2, none⟩ = some (.int .i64 s.ppb) := G5.out.cell 2
        have HS5 := s12 X5.out hp5
        have n5 := World.new_ne W5 _ hp5
        have n6 := World.new_ne W5 _ HS5.1
        dsimp only at n5 n6
        clear B5 hd hz Hs Hp hO ho hBr hx hsrc e0 hmg
        go_wp2_with fail
        rw [← hW5]
        clear hW5 c0 c1 c2 c3 c4 c5 c6 c7 c8 c9 c10
        have F1 : wr.heap.size ≠ gs + 1 := by omega
        have F2 : w.heap.size ≠ gs + 1 := by omega
        have F3 : W5.heap.size ≠ gs + 1 := by omega
        have F4 : gs ≠ gs + 1 := by omega
        have F7 : wr.heap.size + 1 ≠ w.heap.size := by omega
        have F5 : wr.heap.size ≠ gs := by omega
        have F6 : w.heap.size ≠ gs := by omega
        go_region_held3 (fun w' => w'.cell? ⟨wr.heap.size, 0, none⟩ = some (.int .i64 x.src) ∧ w'.cell? ⟨wr.heap.size, 1, none⟩ = some (.int .i64 x.tru) ∧ w'.cell? ⟨wr.heap.size, 2, none⟩ = some (.int .i64 x.loc) ∧ w'.cell? ⟨wr.heap.size, 3, none⟩ = some (.int .i64 x.out) ∧ w'.cell? ⟨wr.heap.size, 4, none⟩ = some (.int .i64 x.outL) ∧ w'.cell? ⟨wr.heap.size, 5, none⟩ = some (.int .i64 x.hold) ∧ w'.cell? ⟨wr.heap.size, 6, none⟩ = some (.int .i64 x.holdL) ∧ w'.cell? ⟨wr.heap.size, 7, none⟩ = some (.int .i64 x.back) ∧ w'.cell? ⟨wr.heap.size, 8, none⟩ = some (.int .i64 x.backL) ∧ w'.cell? ⟨wr.heap.size, 9, none⟩ = some (.int .i64 x.w2) ∧ w'.cell? ⟨wr.heap.size, 10, none⟩ = some (.int .i64 x.w3) ∧ w'.cell? ⟨w.heap.size, 2, none⟩ = some (.int .i64 s.ppb)) (first | exact hS2 | exact hS1 | go_keep) (first
          | (go_at_call 32; refine (AK.out W5.drew (below_drew hB5.out) Hp5.out.drew).mono ?_; rintro e w6 ⟨rfl, hb6, ho6⟩; have P6 := Lib.hid hb6; have S6 := Lib.hid (Hs5.out.drew.keepO ho6 F4 F4); have O6 := Lib.hid ((Only.refl gs (gs + 1) W5).drew.trans ho6.one.swap); have hS1 := s12 (X5.out.keepO O6.out F5 F1) ((G5.out.keepO O6.out F6 F2).cell 2); have n8 := World.new_ne w6 _ hS1.1; have n9 := World.new_ne w6 _ hS1.2.2.2.2.2.2.2.2.2.2.2; dsimp only at n8 n9; clear hb6 ho6)
          | (go_at_call 32; refine (AK.out (W5.alloc _).drew (below_drew (below_alloc hB5.out _)) (Hp5.out.alloc _).drew).mono ?_; rintro e w6 ⟨rfl, hb6, ho6⟩; have P6 := Lib.hid hb6; have S6 := Lib.hid ((Hs5.out.alloc _).drew.keepO ho6 F4 F4); have O6 := Lib.hid (((Only.refl gs (gs + 1) W5).alloc _).drew.trans ho6.one.swap); have hS1 := s12 (X5.out.keepO O6.out F5 F1) ((G5.out.keepO O6.out F6 F2).cell 2); have HQ := Lib.hid ((Blk.new W5 _ _).drew.keepO ho6 F3 F3); have n8 := World.new_ne w6 _ hS1.1; have n9 := World.new_ne w6 _ hS1.2.2.2.2.2.2.2.2.2.2.2; dsimp only at n8 n9; clear hb6 ho6)
          | (go_at_call 31; refine (AT.out w6).mono ?_; rintro e w7 ⟨rfl, hb7⟩; have P7 := Lib.hid (P6.out.keep hb7); have S7 := Lib.hid (S6.out.keep hb7); have O7 := Lib.hid (O6.out.then hb7); have hS2 := s12 (X5.out.keepO O7.out F5 F1) ((G5.out.keepO O7.out F6 F2).cell 2); (try (have HQ7 := HQ.out.keep hb7; rw [hs5] at HQ7; obtain ⟨y0, y1, v0, v1⟩ := blk2 HQ7; replace HQ7 := Lib.hid HQ7)); clear hb7)
          | (go_at_call 31; refine (AT.out (w6.alloc _)).mono ?_; rintro e w7 ⟨rfl, hb7⟩; have P7 := Lib.hid ((P6.out.alloc _).keep hb7); have S7 := Lib.hid ((S6.out.alloc _).keep hb7); have O7 := Lib.hid ((O6.out.alloc _).then hb7); have hS2 := s12 (X5.out.keepO O7.out F5 F1) ((G5.out.keepO O7.out F6 F2).cell 2); have HQ7 := (Blk.new w6 _ _).keep hb7; obtain ⟨y0, y1, v0, v1⟩ := blk2 HQ7; replace HQ7 := Lib.hid HQ7; clear hb7))
        --ROUND
        · generalize hW8 : (w7.alloc (.cells #[.int .i64 al, .int .i64 ah] 51)) = w8
          have B8 : Below w7.heap.size w7 w8 := by rw [← hW8]; exact below_alloc (Below.refl _ _) _
          have KS := Lib.hid (show Blk w8 w7.heap.size 51 #[.int .i64 al, .int .i64 ah] by rw [← hW8]; exact Blk.new _ _ _)
          have P8 := Lib.hid (P7.out.keep B8)
          have S8 := Lib.hid (S7.out.keep B8)
          have O8 := Lib.hid (O7.out.then B8)
          have F8 : gs + 1 ≠ gs := by omega
          have F9 : w7.heap.size ≠ gs := by have := P7.out.lt; omega
          clear hW8 B8 P7 S7 O7 P6 S6 O6 hS1 hS2 n8 n9 HS5
          obtain ⟨d0, d1, _, _⟩ := blk2 KS.out
          have d2 : w8.cell? ⟨w.heap.size, 2, none⟩ = some (.int .i64 s.ppb) := (G5.out.keepO O8.out F6 F2).cell 2
          have d3 : w8.cell? ⟨wr.heap.size, 0, none⟩ = some (.int .i64 x.src) := (X5.out.keepO O8.out F5 F1).cell 0
          have d4 : w8.cell? ⟨gs + 1, 9, none⟩ = some (.slice (some ⟨gs, 0, none⟩) s.errs.length s.errs.length) := P8.out.list_cell 9
          have d5 : w8.cell? ⟨gs + 1, 8, none⟩ = some (.int .i64 qm.r) := P8.out.list_cell 8
          have hz8 : gs + 1 < w8.heap.size := P8.out.lt
          have s0 := hx'.out.s0
          have s1 := hx'.out.s1
          by_cases hc : ac = 0
          · have hlo := hal.out
            have hhi := hah.out
            have hsp := hxl.out (by rw [hac.out]; exact hc)
            rw [hac.out, if_pos hc] at hlo hhi
            rw [hlo, hhi] at hsp
            have TK := Lib.hid fun W h => src_take s qm gs x.src.toNat 82 (k + 1) al ah W (by omega) ok.out hmv.out hsp (by omega) h
            have hqh := Lib.hid (show q.heard s x = qm.hear x.src.toNat al ah s.ppb by rw [hHD.out, hac.out, if_pos hc, hlo, hhi])
            clear hlo hhi hsp hal hah hxl hHD
            subst hc
            have HS8 := Lib.hid (show w8.cell? ⟨gs + 1, 9, none⟩ = some (.slice (some ⟨gs, 0, none⟩) s.errs.length s.errs.length) ∧ w8.cell? ⟨wr.heap.size, 0, none⟩ = some (.int .i64 x.src) ∧ w8.cell? ⟨gs + 1, 8, none⟩ = some (.int .i64 qm.r) ∧ w8.cell? ⟨w7.heap.size, 0, none⟩ = some (.int .i64 al) ∧ w8.cell? ⟨w7.heap.size, 1, none⟩ = some (.int .i64 ah) ∧ w8.cell? ⟨w.heap.size, 2, none⟩ = some (.int .i64 s.ppb) from ⟨d4, d3, d5, d0, d1, d2⟩)
            go_wp2_with fail
            go_region_held3 (fun w' => w'.cell? ⟨gs + 1, 9, none⟩ = some (.slice (some ⟨gs, 0, none⟩) s.errs.length s.errs.length) ∧ w'.cell? ⟨wr.heap.size, 0, none⟩ = some (.int .i64 x.src) ∧ w'.cell? ⟨gs + 1, 8, none⟩ = some (.int .i64 qm.r) ∧ w'.cell? ⟨w7.heap.size, 0, none⟩ = some (.int .i64 al) ∧ w'.cell? ⟨w7.heap.size, 1, none⟩ = some (.int .i64 ah) ∧ w'.cell? ⟨w.heap.size, 2, none⟩ = some (.int .i64 s.ppb)) (first | exact hS9 | go_keep) (first | (go_at_call 33; refine (TK.out w8.drew S8.out.drew).mono ?_; rintro e w9 ⟨rfl, h9, o9⟩; have P9' := P8.out.drew.keepO o9 F8 F8; have K9 := blk2 (KS.out.drew.keepO o9 F9 F9); have hS9 := (show w9.cell? ⟨gs + 1, 9, none⟩ = some (.slice (some ⟨gs, 0, none⟩) s.errs.length s.errs.length) ∧ w9.cell? ⟨wr.heap.size, 0, none⟩ = some (.int .i64 x.src) ∧ w9.cell? ⟨gs + 1, 8, none⟩ = some (.int .i64 qm.r) ∧ w9.cell? ⟨w7.heap.size, 0, none⟩ = some (.int .i64 al) ∧ w9.cell? ⟨w7.heap.size, 1, none⟩ = some (.int .i64 ah) ∧ w9.cell? ⟨w.heap.size, 2, none⟩ = some (.int .i64 s.ppb) from ⟨P9'.list_cell 9, (((X5.out.keepO O8.out F5 F1).drew).keepO o9 F5 F5).cell 0, P9'.list_cell 8, K9.1, K9.2.1, (((G5.out.keepO O8.out F6 F2).drew).keepO o9 F6 F6).cell 2⟩); clear K9))
            have S9 := Lib.hid (show Blk w9 gs 82 ((q.heard s x).src.flatMap encKw).toArray by rw [hqh.out]; exact h9)
            have P9 := Lib.hid (show Blk w9 (gs + 1) 84 (plC s A c (some ⟨b, off, none⟩) c' (.slice (some ⟨gs, 0, none⟩) s.errs.length s.errs.length) (q.heard s x)).toArray by rw [hqh.out]; exact P9')
            have O9 := Lib.hid (O8.out.drew.trans o9.one)
            clear hS9 h9 o9 P9' hqh HS8 d0 d1 d2 d3 d4 d5 S8 P8 O8 KS TK
            generalize q.heard s x = qh at *
            have MG := Lib.hid (merge_ok s A (some ⟨b, off, none⟩) c c' gs s.errs.length qh (gs + 1) _ _ w9 (k + 1) (by omega) ok.out hhd.out P9.out S9.out)
            go_wp2_with fail
            refine (MG.out).mono ?_
            rintro e wa ⟨rfl, hba, hoa⟩
            have Sa := Lib.hid (show Blk wa gs 82 ((qh.merged s).src.flatMap encKw).toArray by rw [merged_src]; exact S9.out.keepO hoa F4 F4)
            have Oa := Lib.hid (O9.out.trans hoa.one.swap)
            have RP := Lib.hid (report_ok s A (some ⟨b, off, none⟩) c c' (.slice (some ⟨gs, 0, none⟩) s.errs.length s.errs.length) (qh.merged s) (gs + 1) _ wa (k + 1) (by omega) ok.out (hhd.out.merged ok.out (by omega)) hba)
            have hsg := Lib.hid ((hhd.out.merged ok.out (by omega)).seen ok.out (by omega))
            clear hba hoa MG P9 S9 O9
            go_wp2_with fail
            refine (RP.out).mono ?_
            rintro e wb ⟨rfl, hbb, hob⟩
            have Sb := Lib.hid (show Blk wb gs 82 ((qh.merged s).seen.src.flatMap encKw).toArray by rw [seen_src]; exact Sa.out.keepO hob F4 F4)
            have Ob := Lib.hid (Oa.out.trans hob.one.swap)
            have Pb := Lib.hid hbb
            have hob2 := Lib.hid (own_only ho5.out Ob.out (by omega) (by omega))
            have OO := Lib.hid (O5.out.trans Ob.out)
            have hzb : W4.heap.size ≤ wb.heap.size := OO.out.size
            clear hbb hob RP Sa Oa hhd hmv
            generalize (qh.merged s).seen = qn at *
            generalize hrr : qn.rp = rp at *
            have hl3 := Lib.hid (show (out ++ [rp]).length = k + 1 by rw [List.length_append, hlen.out]; rfl)
            have HR : Hid ((out ++ [rp]) ++ runL s (s.steps.drop (k + 1)) qn = R) := Lib.hid (by rw [← hRx.out]; simp)
            clear hrr hRx
            have hsz : (k + 1) * 80 ≤ 140737488355328 := by omega
            dsimp only [vRp]
            go_wp2_with (at_builtin; refine wpList_append_own _ rfl (.tmp 65) (.tmp 68) 35 rfl W4.heap.size 55 i0 _ 11 80 Tryz.underlying35 hi hz0 hz1 hz2 rfl (by decide) _ k (out.flatMap encRp) rfl ?c0 _ 1 1 [.int .i64 rp.loc, .int .i64 rp.tru, .bool rp.some, .int .i64 rp.lo, .int .i64 rp.hi, .int .i64 rp.ck.aim, .int .i64 rp.ck.rate, .bool rp.ck.set, .bool rp.ck.held, .int .i64 rp.ck.a, .int .i64 rp.ck.shown] rfl rfl ?c1 ?c2 ?c3 hsz ?c5 ?_)
            case c0 => exact hob2.out.alloc _
            case c1 => exact World.news_of_block (cs := #[.int .i64 rp.loc, .int .i64 rp.tru, .bool rp.some, .int .i64 rp.lo, .int .i64 rp.hi, .int .i64 rp.ck.aim, .int .i64 rp.ck.rate, .bool rp.ck.set, .bool rp.ck.held, .int .i64 rp.ck.a, .int .i64 rp.ck.shown]) (t := 55) (fr := (0, 0)) (new_at (by simp))
            case c2 => simp [Value.oneCell']
            case c3 => unfold maxLen; omega
            case c5 => simp; omega
            intro v2 wc hown hgrow _
            have hlt2 := hob2.out.lt
            have Oc := Lib.hid ((OO.out.alloc _).grown hgrow (fun j hj => (hlt2 j hj).1))
            have Sc := Lib.hid ((Sb.out.alloc _).grown hgrow (fun j hj => by have := (hlt2 j hj).1; omega))
            have Pc := Lib.hid ((Pb.out.alloc _).grown hgrow (fun j hj => by have := (hlt2 j hj).1; omega))
            have hown3 := Lib.hid (show wc.ownsRow W4.heap.size 55 11 v2 (k + 1) ((out ++ [rp]).flatMap encRp) by rw [List.flatMap_append]; exact hown)
            clear hown hgrow hlt2 OO Sb Pb hob2 Ob
            go_wp2
            go_roundg (m - (k + 1))
            case rel => exact ⟨k + 1, out ++ [rp], qn, by omega, Nat.le_refl _, by go_num, hl3, hsg, Sc, Pc, hown3, Oc, HR⟩
            case measure => omega
          · have hqh := Lib.hid (show q.heard s x = qm by rw [hHD.out, hac.out, if_neg hc])
            have tc : (ac == 0) = false := by simp [hc]
            have S9 := Lib.hid (show Blk w8 gs 82 ((q.heard s x).src.flatMap encKw).toArray by rw [hqh.out]; exact S8.out)
            have P9 := Lib.hid (show Blk w8 (gs + 1) 84 (plC s A c (some ⟨b, off, none⟩) c' (.slice (some ⟨gs, 0, none⟩) s.errs.length s.errs.length) (q.heard s x)).toArray by rw [hqh.out]; exact P8.out)
            have O9 := Lib.hid O8.out
            clear hqh hHD hal hah hxl hc d0 d1 d2 d3 d4 d5 S8 P8 O8 KS
            generalize q.heard s x = qh at *
            have MG := Lib.hid (merge_ok s A (some ⟨b, off, none⟩) c c' gs s.errs.length qh (gs + 1) _ _ w8 (k + 1) (by omega) ok.out hhd.out P9.out S9.out)
            go_wp2_with fail
            refine (MG.out).mono ?_
            rintro e wa ⟨rfl, hba, hoa⟩
            have Sa := Lib.hid (show Blk wa gs 82 ((qh.merged s).src.flatMap encKw).toArray by rw [merged_src]; exact S9.out.keepO hoa F4 F4)
            have Oa := Lib.hid (O9.out.trans hoa.one.swap)
            have RP := Lib.hid (report_ok s A (some ⟨b, off, none⟩) c c' (.slice (some ⟨gs, 0, none⟩) s.errs.length s.errs.length) (qh.merged s) (gs + 1) _ wa (k + 1) (by omega) ok.out (hhd.out.merged ok.out (by omega)) hba)
            have hsg := Lib.hid ((hhd.out.merged ok.out (by omega)).seen ok.out (by omega))
            clear hba hoa MG P9 S9 O9
            go_wp2_with fail
            refine (RP.out).mono ?_
            rintro e wb ⟨rfl, hbb, hob⟩
            have Sb := Lib.hid (show Blk wb gs 82 ((qh.merged s).seen.src.flatMap encKw).toArray by rw [seen_src]; exact Sa.out.keepO hob F4 F4)
            have Ob := Lib.hid (Oa.out.trans hob.one.swap)
            have Pb := Lib.hid hbb
            have hob2 := Lib.hid (own_only ho5.out Ob.out (by omega) (by omega))
            have OO := Lib.hid (O5.out.trans Ob.out)
            have hzb : W4.heap.size ≤ wb.heap.size := OO.out.size
            clear hbb hob RP Sa Oa hhd hmv
            generalize (qh.merged s).seen = qn at *
            generalize hrr : qn.rp = rp at *
            have hl3 := Lib.hid (show (out ++ [rp]).length = k + 1 by rw [List.length_append, hlen.out]; rfl)
            have HR : Hid ((out ++ [rp]) ++ runL s (s.steps.drop (k + 1)) qn = R) := Lib.hid (by rw [← hRx.out]; simp)
            clear hrr hRx
            have hsz : (k + 1) * 80 ≤ 140737488355328 := by omega
            dsimp only [vRp]
            go_wp2_with (at_builtin; refine wpList_append_own _ rfl (.tmp 65) (.tmp 68) 35 rfl W4.heap.size 55 i0 _ 11 80 Tryz.underlying35 hi hz0 hz1 hz2 rfl (by decide) _ k (out.flatMap encRp) rfl ?c0 _ 1 1 [.int .i64 rp.loc, .int .i64 rp.tru, .bool rp.some, .int .i64 rp.lo, .int .i64 rp.hi, .int .i64 rp.ck.aim, .int .i64 rp.ck.rate, .bool rp.ck.set, .bool rp.ck.held, .int .i64 rp.ck.a, .int .i64 rp.ck.shown] rfl rfl ?c1 ?c2 ?c3 hsz ?c5 ?_)
            case c0 => exact hob2.out.alloc _
            case c1 => exact World.news_of_block (cs := #[.int .i64 rp.loc, .int .i64 rp.tru, .bool rp.some, .int .i64 rp.lo, .int .i64 rp.hi, .int .i64 rp.ck.aim, .int .i64 rp.ck.rate, .bool rp.ck.set, .bool rp.ck.held, .int .i64 rp.ck.a, .int .i64 rp.ck.shown]) (t := 55) (fr := (0, 0)) (new_at (by simp))
            case c2 => simp [Value.oneCell']
            case c3 => unfold maxLen; omega
            case c5 => simp; omega
            intro v2 wc hown hgrow _
            have hlt2 := hob2.out.lt
            have Oc := Lib.hid ((OO.out.alloc _).grown hgrow (fun j hj => (hlt2 j hj).1))
            have Sc := Lib.hid ((Sb.out.alloc _).grown hgrow (fun j hj => by have := (hlt2 j hj).1; omega))
            have Pc := Lib.hid ((Pb.out.alloc _).grown hgrow (fun j hj => by have := (hlt2 j hj).1; omega))
            have hown3 := Lib.hid (show wc.ownsRow W4.heap.size 55 11 v2 (k + 1) ((out ++ [rp]).flatMap encRp) by rw [List.flatMap_append]; exact hown)
            clear hown hgrow hlt2 OO Sb Pb hob2 Ob
            go_wp2
            go_roundg (m - (k + 1))
            case rel => exact ⟨k + 1, out ++ [rp], qn, by omega, Nat.le_refl _, by go_num, hl3, hsg, Sc, Pc, hown3, Oc, HR⟩
            case measure => omega
        · have hp6 := P6.out.lt
          have FF3 : W5.heap.size ≤ w6.heap.size := O6.out.size
          generalize hW8 : ((w7.setCell ⟨w6.heap.size, 0, none⟩ (.int .i64 al)).setCell ⟨w6.heap.size, 1, none⟩ (.int .i64 ah)) = w8
          have FF1 : gs ≠ w6.heap.size := by omega
          have FF2 : gs + 1 ≠ w6.heap.size := by omega
          have KS := Lib.hid (show Blk w8 (w6.heap.size) 51 #[.int .i64 al, .int .i64 ah] by rw [← hW8]; exact (HQ7.out.set 0 _).set 1 _)
          have P8 := Lib.hid (show Blk w8 (gs + 1) _ _ by rw [← hW8]; exact (P7.out.far (p := ⟨_, _, _⟩) FF2 _).far (p := ⟨_, _, _⟩) FF2 _)
          have S8 := Lib.hid (show Blk w8 gs _ _ by rw [← hW8]; exact (S7.out.far (p := ⟨_, _, _⟩) FF1 _).far (p := ⟨_, _, _⟩) FF1 _)
          have O8 := Lib.hid (show Only gs (gs + 1) W5 w8 by rw [← hW8]; exact (O7.out.setNew FF3 _).setNew FF3 _)
          have F8 : gs + 1 ≠ gs := by omega
          have F9 : w6.heap.size ≠ gs := by omega
          clear hW8 P7 S7 O7 P6 S6 O6 hS1 hS2 n8 n9 HS5 y0 y1 v0 v1 HQ7 FF1 FF2 FF3 hp6
          obtain ⟨d0, d1, _, _⟩ := blk2 KS.out
          have d2 : w8.cell? ⟨w.heap.size, 2, none⟩ = some (.int .i64 s.ppb) := (G5.out.keepO O8.out F6 F2).cell 2
          have d3 : w8.cell? ⟨wr.heap.size, 0, none⟩ = some (.int .i64 x.src) := (X5.out.keepO O8.out F5 F1).cell 0
          have d4 : w8.cell? ⟨gs + 1, 9, none⟩ = some (.slice (some ⟨gs, 0, none⟩) s.errs.length s.errs.length) := P8.out.list_cell 9
          have d5 : w8.cell? ⟨gs + 1, 8, none⟩ = some (.int .i64 qm.r) := P8.out.list_cell 8
          have hz8 : gs + 1 < w8.heap.size := P8.out.lt
          have s0 := hx'.out.s0
          have s1 := hx'.out.s1
          by_cases hc : ac = 0
          · have hlo := hal.out
            have hhi := hah.out
            have hsp := hxl.out (by rw [hac.out]; exact hc)
            rw [hac.out, if_pos hc] at hlo hhi
            rw [hlo, hhi] at hsp
            have TK := Lib.hid fun W h => src_take s qm gs x.src.toNat 82 (k + 1) al ah W (by omega) ok.out hmv.out hsp (by omega) h
            have hqh := Lib.hid (show q.heard s x = qm.hear x.src.toNat al ah s.ppb by rw [hHD.out, hac.out, if_pos hc, hlo, hhi])
            clear hlo hhi hsp hal hah hxl hHD
            subst hc
            have HS8 := Lib.hid (show w8.cell? ⟨gs + 1, 9, none⟩ = some (.slice (some ⟨gs, 0, none⟩) s.errs.length s.errs.length) ∧ w8.cell? ⟨wr.heap.size, 0, none⟩ = some (.int .i64 x.src) ∧ w8.cell? ⟨gs + 1, 8, none⟩ = some (.int .i64 qm.r) ∧ w8.cell? ⟨w6.heap.size, 0, none⟩ = some (.int .i64 al) ∧ w8.cell? ⟨w6.heap.size, 1, none⟩ = some (.int .i64 ah) ∧ w8.cell? ⟨w.heap.size, 2, none⟩ = some (.int .i64 s.ppb) from ⟨d4, d3, d5, d0, d1, d2⟩)
            go_wp2_with fail
            go_region_held3 (fun w' => w'.cell? ⟨gs + 1, 9, none⟩ = some (.slice (some ⟨gs, 0, none⟩) s.errs.length s.errs.length) ∧ w'.cell? ⟨wr.heap.size, 0, none⟩ = some (.int .i64 x.src) ∧ w'.cell? ⟨gs + 1, 8, none⟩ = some (.int .i64 qm.r) ∧ w'.cell? ⟨w6.heap.size, 0, none⟩ = some (.int .i64 al) ∧ w'.cell? ⟨w6.heap.size, 1, none⟩ = some (.int .i64 ah) ∧ w'.cell? ⟨w.heap.size, 2, none⟩ = some (.int .i64 s.ppb)) (first | exact hS9 | go_keep) (first | (go_at_call 33; refine (TK.out w8.drew S8.out.drew).mono ?_; rintro e w9 ⟨rfl, h9, o9⟩; have P9' := P8.out.drew.keepO o9 F8 F8; have K9 := blk2 (KS.out.drew.keepO o9 F9 F9); have hS9 := (show w9.cell? ⟨gs + 1, 9, none⟩ = some (.slice (some ⟨gs, 0, none⟩) s.errs.length s.errs.length) ∧ w9.cell? ⟨wr.heap.size, 0, none⟩ = some (.int .i64 x.src) ∧ w9.cell? ⟨gs + 1, 8, none⟩ = some (.int .i64 qm.r) ∧ w9.cell? ⟨w6.heap.size, 0, none⟩ = some (.int .i64 al) ∧ w9.cell? ⟨w6.heap.size, 1, none⟩ = some (.int .i64 ah) ∧ w9.cell? ⟨w.heap.size, 2, none⟩ = some (.int .i64 s.ppb) from ⟨P9'.list_cell 9, (((X5.out.keepO O8.out F5 F1).drew).keepO o9 F5 F5).cell 0, P9'.list_cell 8, K9.1, K9.2.1, (((G5.out.keepO O8.out F6 F2).drew).keepO o9 F6 F6).cell 2⟩); clear K9))
            have S9 := Lib.hid (show Blk w9 gs 82 ((q.heard s x).src.flatMap encKw).toArray by rw [hqh.out]; exact h9)
            have P9 := Lib.hid (show Blk w9 (gs + 1) 84 (plC s A c (some ⟨b, off, none⟩) c' (.slice (some ⟨gs, 0, none⟩) s.errs.length s.errs.length) (q.heard s x)).toArray by rw [hqh.out]; exact P9')
            have O9 := Lib.hid (O8.out.drew.trans o9.one)
            clear hS9 h9 o9 P9' hqh HS8 d0 d1 d2 d3 d4 d5 S8 P8 O8 KS TK
            generalize q.heard s x = qh at *
            have MG := Lib.hid (merge_ok s A (some ⟨b, off, none⟩) c c' gs s.errs.length qh (gs + 1) _ _ w9 (k + 1) (by omega) ok.out hhd.out P9.out S9.out)
            go_wp2_with fail
            refine (MG.out).mono ?_
            rintro e wa ⟨rfl, hba, hoa⟩
            have Sa := Lib.hid (show Blk wa gs 82 ((qh.merged s).src.flatMap encKw).toArray by rw [merged_src]; exact S9.out.keepO hoa F4 F4)
            have Oa := Lib.hid (O9.out.trans hoa.one.swap)
            have RP := Lib.hid (report_ok s A (some ⟨b, off, none⟩) c c' (.slice (some ⟨gs, 0, none⟩) s.errs.length s.errs.length) (qh.merged s) (gs + 1) _ wa (k + 1) (by omega) ok.out (hhd.out.merged ok.out (by omega)) hba)
            have hsg := Lib.hid ((hhd.out.merged ok.out (by omega)).seen ok.out (by omega))
            clear hba hoa MG P9 S9 O9
            go_wp2_with fail
            refine (RP.out).mono ?_
            rintro e wb ⟨rfl, hbb, hob⟩
            have Sb := Lib.hid (show Blk wb gs 82 ((qh.merged s).seen.src.flatMap encKw).toArray by rw [seen_src]; exact Sa.out.keepO hob F4 F4)
            have Ob := Lib.hid (Oa.out.trans hob.one.swap)
            have Pb := Lib.hid hbb
            have hob2 := Lib.hid (own_only ho5.out Ob.out (by omega) (by omega))
            have OO := Lib.hid (O5.out.trans Ob.out)
            have hzb : W4.heap.size ≤ wb.heap.size := OO.out.size
            clear hbb hob RP Sa Oa hhd hmv
            generalize (qh.merged s).seen = qn at *
            generalize hrr : qn.rp = rp at *
            have hl3 := Lib.hid (show (out ++ [rp]).length = k + 1 by rw [List.length_append, hlen.out]; rfl)
            have HR : Hid ((out ++ [rp]) ++ runL s (s.steps.drop (k + 1)) qn = R) := Lib.hid (by rw [← hRx.out]; simp)
            clear hrr hRx
            have hsz : (k + 1) * 80 ≤ 140737488355328 := by omega
            dsimp only [vRp]
            go_wp2_with (at_builtin; refine wpList_append_own _ rfl (.tmp 65) (.tmp 68) 35 rfl W4.heap.size 55 i0 _ 11 80 Tryz.underlying35 hi hz0 hz1 hz2 rfl (by decide) _ k (out.flatMap encRp) rfl ?c0 _ 1 1 [.int .i64 rp.loc, .int .i64 rp.tru, .bool rp.some, .int .i64 rp.lo, .int .i64 rp.hi, .int .i64 rp.ck.aim, .int .i64 rp.ck.rate, .bool rp.ck.set, .bool rp.ck.held, .int .i64 rp.ck.a, .int .i64 rp.ck.shown] rfl rfl ?c1 ?c2 ?c3 hsz ?c5 ?_)
            case c0 => exact hob2.out.alloc _
            case c1 => exact World.news_of_block (cs := #[.int .i64 rp.loc, .int .i64 rp.tru, .bool rp.some, .int .i64 rp.lo, .int .i64 rp.hi, .int .i64 rp.ck.aim, .int .i64 rp.ck.rate, .bool rp.ck.set, .bool rp.ck.held, .int .i64 rp.ck.a, .int .i64 rp.ck.shown]) (t := 55) (fr := (0, 0)) (new_at (by simp))
            case c2 => simp [Value.oneCell']
            case c3 => unfold maxLen; omega
            case c5 => simp; omega
            intro v2 wc hown hgrow _
            have hlt2 := hob2.out.lt
            have Oc := Lib.hid ((OO.out.alloc _).grown hgrow (fun j hj => (hlt2 j hj).1))
            have Sc := Lib.hid ((Sb.out.alloc _).grown hgrow (fun j hj => by have := (hlt2 j hj).1; omega))
            have Pc := Lib.hid ((Pb.out.alloc _).grown hgrow (fun j hj => by have := (hlt2 j hj).1; omega))
            have hown3 := Lib.hid (show wc.ownsRow W4.heap.size 55 11 v2 (k + 1) ((out ++ [rp]).flatMap encRp) by rw [List.flatMap_append]; exact hown)
            clear hown hgrow hlt2 OO Sb Pb hob2 Ob
            go_wp2
            go_roundg (m - (k + 1))
            case rel => exact ⟨k + 1, out ++ [rp], qn, by omega, Nat.le_refl _, by go_num, hl3, hsg, Sc, Pc, hown3, Oc, HR⟩
            case measure => omega
          · have hqh := Lib.hid (show q.heard s x = qm by rw [hHD.out, hac.out, if_neg hc])
            have tc : (ac == 0) = false := by simp [hc]
            have S9 := Lib.hid (show Blk w8 gs 82 ((q.heard s x).src.flatMap encKw).toArray by rw [hqh.out]; exact S8.out)
            have P9 := Lib.hid (show Blk w8 (gs + 1) 84 (plC s A c (some ⟨b, off, none⟩) c' (.slice (some ⟨gs, 0, none⟩) s.errs.length s.errs.length) (q.heard s x)).toArray by rw [hqh.out]; exact P8.out)
            have O9 := Lib.hid O8.out
            clear hqh hHD hal hah hxl hc d0 d1 d2 d3 d4 d5 S8 P8 O8 KS
            generalize q.heard s x = qh at *
            have MG := Lib.hid (merge_ok s A (some ⟨b, off, none⟩) c c' gs s.errs.length qh (gs + 1) _ _ w8 (k + 1) (by omega) ok.out hhd.out P9.out S9.out)
            go_wp2_with fail
            refine (MG.out).mono ?_
            rintro e wa ⟨rfl, hba, hoa⟩
            have Sa := Lib.hid (show Blk wa gs 82 ((qh.merged s).src.flatMap encKw).toArray by rw [merged_src]; exact S9.out.keepO hoa F4 F4)
            have Oa := Lib.hid (O9.out.trans hoa.one.swap)
            have RP := Lib.hid (report_ok s A (some ⟨b, off, none⟩) c c' (.slice (some ⟨gs, 0, none⟩) s.errs.length s.errs.length) (qh.merged s) (gs + 1) _ wa (k + 1) (by omega) ok.out (hhd.out.merged ok.out (by omega)) hba)
            have hsg := Lib.hid ((hhd.out.merged ok.out (by omega)).seen ok.out (by omega))
            clear hba hoa MG P9 S9 O9
            go_wp2_with fail
            refine (RP.out).mono ?_
            rintro e wb ⟨rfl, hbb, hob⟩
            have Sb := Lib.hid (show Blk wb gs 82 ((qh.merged s).seen.src.flatMap encKw).toArray by rw [seen_src]; exact Sa.out.keepO hob F4 F4)
            have Ob := Lib.hid (Oa.out.trans hob.one.swap)
            have Pb := Lib.hid hbb
            have hob2 := Lib.hid (own_only ho5.out Ob.out (by omega) (by omega))
            have OO := Lib.hid (O5.out.trans Ob.out)
            have hzb : W4.heap.size ≤ wb.heap.size := OO.out.size
            clear hbb hob RP Sa Oa hhd hmv
            generalize (qh.merged s).seen = qn at *
            generalize hrr : qn.rp = rp at *
            have hl3 := Lib.hid (show (out ++ [rp]).length = k + 1 by rw [List.length_append, hlen.out]; rfl)
            have HR : Hid ((out ++ [rp]) ++ runL s (s.steps.drop (k + 1)) qn = R) := Lib.hid (by rw [← hRx.out]; simp)
            clear hrr hRx
            have hsz : (k + 1) * 80 ≤ 140737488355328 := by omega
            dsimp only [vRp]
            go_wp2_with (at_builtin; refine wpList_append_own _ rfl (.tmp 65) (.tmp 68) 35 rfl W4.heap.size 55 i0 _ 11 80 Tryz.underlying35 hi hz0 hz1 hz2 rfl (by decide) _ k (out.flatMap encRp) rfl ?c0 _ 1 1 [.int .i64 rp.loc, .int .i64 rp.tru, .bool rp.some, .int .i64 rp.lo, .int .i64 rp.hi, .int .i64 rp.ck.aim, .int .i64 rp.ck.rate, .bool rp.ck.set, .bool rp.ck.held, .int .i64 rp.ck.a, .int .i64 rp.ck.shown] rfl rfl ?c1 ?c2 ?c3 hsz ?c5 ?_)
            case c0 => exact hob2.out.alloc _
            case c1 => exact World.news_of_block (cs := #[.int .i64 rp.loc, .int .i64 rp.tru, .bool rp.some, .int .i64 rp.lo, .int .i64 rp.hi, .int .i64 rp.ck.aim, .int .i64 rp.ck.rate, .bool rp.ck.set, .bool rp.ck.held, .int .i64 rp.ck.a, .int .i64 rp.ck.shown]) (t := 55) (fr := (0, 0)) (new_at (by simp))
            case c2 => simp [Value.oneCell']
            case c3 => unfold maxLen; omega
            case c5 => simp; omega
            intro v2 wc hown hgrow _
            have hlt2 := hob2.out.lt
            have Oc := Lib.hid ((OO.out.alloc _).grown hgrow (fun j hj => (hlt2 j hj).1))
            have Sc := Lib.hid ((Sb.out.alloc _).grown hgrow (fun j hj => by have := (hlt2 j hj).1; omega))
            have Pc := Lib.hid ((Pb.out.alloc _).grown hgrow (fun j hj => by have := (hlt2 j hj).1; omega))
            have hown3 := Lib.hid (show wc.ownsRow W4.heap.size 55 11 v2 (k + 1) ((out ++ [rp]).flatMap encRp) by rw [List.flatMap_append]; exact hown)
            clear hown hgrow hlt2 OO Sb Pb hob2 Ob
            go_wp2
            go_roundg (m - (k + 1))
            case rel => exact ⟨k + 1, out ++ [rp], qn, by omega, Nat.le_refl _, by go_num, hl3, hsg, Sc, Pc, hown3, Oc, HR⟩
            case measure => omega
        · have FF3 : W5.heap.size ≤ wr.heap.size + 1 := by omega
          generalize hW8 : ((w7.setCell ⟨wr.heap.size + 1, 0, none⟩ (.int .i64 al)).setCell ⟨wr.heap.size + 1, 1, none⟩ (.int .i64 ah)) = w8
          have FF1 : gs ≠ wr.heap.size + 1 := by omega
          have FF2 : gs + 1 ≠ wr.heap.size + 1 := by omega
          have KS := Lib.hid (show Blk w8 (wr.heap.size + 1) 51 #[.int .i64 al, .int .i64 ah] by rw [← hW8]; exact (HQ7.out.set 0 _).set 1 _)
          have P8 := Lib.hid (show Blk w8 (gs + 1) _ _ by rw [← hW8]; exact (P7.out.far (p := ⟨_, _, _⟩) FF2 _).far (p := ⟨_, _, _⟩) FF2 _)
          have S8 := Lib.hid (show Blk w8 gs _ _ by rw [← hW8]; exact (S7.out.far (p := ⟨_, _, _⟩) FF1 _).far (p := ⟨_, _, _⟩) FF1 _)
          have O8 := Lib.hid (show Only gs (gs + 1) W5 w8 by rw [← hW8]; exact (O7.out.setNew FF3 _).setNew FF3 _)
          have F8 : gs + 1 ≠ gs := by omega
          have F9 : wr.heap.size + 1 ≠ gs := by omega
          clear hW8 P7 S7 O7 P6 S6 O6 hS1 hS2 n8 n9 HS5 y0 y1 v0 v1 HQ7 FF1 FF2 FF3 HQ
          obtain ⟨d0, d1, _, _⟩ := blk2 KS.out
          have d2 : w8.cell? ⟨w.heap.size, 2, none⟩ = some (.int .i64 s.ppb) := (G5.out.keepO O8.out F6 F2).cell 2
          have d3 : w8.cell? ⟨wr.heap.size, 0, none⟩ = some (.int .i64 x.src) := (X5.out.keepO O8.out F5 F1).cell 0
          have d4 : w8.cell? ⟨gs + 1, 9, none⟩ = some (.slice (some ⟨gs, 0, none⟩) s.errs.length s.errs.length) := P8.out.list_cell 9
          have d5 : w8.cell? ⟨gs + 1, 8, none⟩ = some (.int .i64 qm.r) := P8.out.list_cell 8
          have hz8 : gs + 1 < w8.heap.size := P8.out.lt
          have s0 := hx'.out.s0
          have s1 := hx'.out.s1
          by_cases hc : ac = 0
          · have hlo := hal.out
            have hhi := hah.out
            have hsp := hxl.out (by rw [hac.out]; exact hc)
            rw [hac.out, if_pos hc] at hlo hhi
            rw [hlo, hhi] at hsp
            have TK := Lib.hid fun W h => src_take s qm gs x.src.toNat 82 (k + 1) al ah W (by omega) ok.out hmv.out hsp (by omega) h
            have hqh := Lib.hid (show q.heard s x = qm.hear x.src.toNat al ah s.ppb by rw [hHD.out, hac.out, if_pos hc, hlo, hhi])
            clear hlo hhi hsp hal hah hxl hHD
            subst hc
            have HS8 := Lib.hid (show w8.cell? ⟨gs + 1, 9, none⟩ = some (.slice (some ⟨gs, 0, none⟩) s.errs.length s.errs.length) ∧ w8.cell? ⟨wr.heap.size, 0, none⟩ = some (.int .i64 x.src) ∧ w8.cell? ⟨gs + 1, 8, none⟩ = some (.int .i64 qm.r) ∧ w8.cell? ⟨wr.heap.size + 1, 0, none⟩ = some (.int .i64 al) ∧ w8.cell? ⟨wr.heap.size + 1, 1, none⟩ = some (.int .i64 ah) ∧ w8.cell? ⟨w.heap.size, 2, none⟩ = some (.int .i64 s.ppb) from ⟨d4, d3, d5, d0, d1, d2⟩)
            go_wp2_with fail
            go_region_held3 (fun w' => w'.cell? ⟨gs + 1, 9, none⟩ = some (.slice (some ⟨gs, 0, none⟩) s.errs.length s.errs.length) ∧ w'.cell? ⟨wr.heap.size, 0, none⟩ = some (.int .i64 x.src) ∧ w'.cell? ⟨gs + 1, 8, none⟩ = some (.int .i64 qm.r) ∧ w'.cell? ⟨wr.heap.size + 1, 0, none⟩ = some (.int .i64 al) ∧ w'.cell? ⟨wr.heap.size + 1, 1, none⟩ = some (.int .i64 ah) ∧ w'.cell? ⟨w.heap.size, 2, none⟩ = some (.int .i64 s.ppb)) (first | exact hS9 | go_keep) (first | (go_at_call 33; refine (TK.out w8.drew S8.out.drew).mono ?_; rintro e w9 ⟨rfl, h9, o9⟩; have P9' := P8.out.drew.keepO o9 F8 F8; have K9 := blk2 (KS.out.drew.keepO o9 F9 F9); have hS9 := (show w9.cell? ⟨gs + 1, 9, none⟩ = some (.slice (some ⟨gs, 0, none⟩) s.errs.length s.errs.length) ∧ w9.cell? ⟨wr.heap.size, 0, none⟩ = some (.int .i64 x.src) ∧ w9.cell? ⟨gs + 1, 8, none⟩ = some (.int .i64 qm.r) ∧ w9.cell? ⟨wr.heap.size + 1, 0, none⟩ = some (.int .i64 al) ∧ w9.cell? ⟨wr.heap.size + 1, 1, none⟩ = some (.int .i64 ah) ∧ w9.cell? ⟨w.heap.size, 2, none⟩ = some (.int .i64 s.ppb) from ⟨P9'.list_cell 9, (((X5.out.keepO O8.out F5 F1).drew).keepO o9 F5 F5).cell 0, P9'.list_cell 8, K9.1, K9.2.1, (((G5.out.keepO O8.out F6 F2).drew).keepO o9 F6 F6).cell 2⟩); clear K9))
            have S9 := Lib.hid (show Blk w9 gs 82 ((q.heard s x).src.flatMap encKw).toArray by rw [hqh.out]; exact h9)
            have P9 := Lib.hid (show Blk w9 (gs + 1) 84 (plC s A c (some ⟨b, off, none⟩) c' (.slice (some ⟨gs, 0, none⟩) s.errs.length s.errs.length) (q.heard s x)).toArray by rw [hqh.out]; exact P9')
            have O9 := Lib.hid (O8.out.drew.trans o9.one)
            clear hS9 h9 o9 P9' hqh HS8 d0 d1 d2 d3 d4 d5 S8 P8 O8 KS TK
            generalize q.heard s x = qh at *
            have MG := Lib.hid (merge_ok s A (some ⟨b, off, none⟩) c c' gs s.errs.length qh (gs + 1) _ _ w9 (k + 1) (by omega) ok.out hhd.out P9.out S9.out)
            go_wp2_with fail
            refine (MG.out).mono ?_
            rintro e wa ⟨rfl, hba, hoa⟩
            have Sa := Lib.hid (show Blk wa gs 82 ((qh.merged s).src.flatMap encKw).toArray by rw [merged_src]; exact S9.out.keepO hoa F4 F4)
            have Oa := Lib.hid (O9.out.trans hoa.one.swap)
            have RP := Lib.hid (report_ok s A (some ⟨b, off, none⟩) c c' (.slice (some ⟨gs, 0, none⟩) s.errs.length s.errs.length) (qh.merged s) (gs + 1) _ wa (k + 1) (by omega) ok.out (hhd.out.merged ok.out (by omega)) hba)
            have hsg := Lib.hid ((hhd.out.merged ok.out (by omega)).seen ok.out (by omega))
            clear hba hoa MG P9 S9 O9
            go_wp2_with fail
            refine (RP.out).mono ?_
            rintro e wb ⟨rfl, hbb, hob⟩
            have Sb := Lib.hid (show Blk wb gs 82 ((qh.merged s).seen.src.flatMap encKw).toArray by rw [seen_src]; exact Sa.out.keepO hob F4 F4)
            have Ob := Lib.hid (Oa.out.trans hob.one.swap)
            have Pb := Lib.hid hbb
            have hob2 := Lib.hid (own_only ho5.out Ob.out (by omega) (by omega))
            have OO := Lib.hid (O5.out.trans Ob.out)
            have hzb : W4.heap.size ≤ wb.heap.size := OO.out.size
            clear hbb hob RP Sa Oa hhd hmv
            generalize (qh.merged s).seen = qn at *
            generalize hrr : qn.rp = rp at *
            have hl3 := Lib.hid (show (out ++ [rp]).length = k + 1 by rw [List.length_append, hlen.out]; rfl)
            have HR : Hid ((out ++ [rp]) ++ runL s (s.steps.drop (k + 1)) qn = R) := Lib.hid (by rw [← hRx.out]; simp)
            clear hrr hRx
            have hsz : (k + 1) * 80 ≤ 140737488355328 := by omega
            dsimp only [vRp]
            go_wp2_with (at_builtin; refine wpList_append_own _ rfl (.tmp 65) (.tmp 68) 35 rfl W4.heap.size 55 i0 _ 11 80 Tryz.underlying35 hi hz0 hz1 hz2 rfl (by decide) _ k (out.flatMap encRp) rfl ?c0 _ 1 1 [.int .i64 rp.loc, .int .i64 rp.tru, .bool rp.some, .int .i64 rp.lo, .int .i64 rp.hi, .int .i64 rp.ck.aim, .int .i64 rp.ck.rate, .bool rp.ck.set, .bool rp.ck.held, .int .i64 rp.ck.a, .int .i64 rp.ck.shown] rfl rfl ?c1 ?c2 ?c3 hsz ?c5 ?_)
            case c0 => exact hob2.out.alloc _
            case c1 => exact World.news_of_block (cs := #[.int .i64 rp.loc, .int .i64 rp.tru, .bool rp.some, .int .i64 rp.lo, .int .i64 rp.hi, .int .i64 rp.ck.aim, .int .i64 rp.ck.rate, .bool rp.ck.set, .bool rp.ck.held, .int .i64 rp.ck.a, .int .i64 rp.ck.shown]) (t := 55) (fr := (0, 0)) (new_at (by simp))
            case c2 => simp [Value.oneCell']
            case c3 => unfold maxLen; omega
            case c5 => simp; omega
            intro v2 wc hown hgrow _
            have hlt2 := hob2.out.lt
            have Oc := Lib.hid ((OO.out.alloc _).grown hgrow (fun j hj => (hlt2 j hj).1))
            have Sc := Lib.hid ((Sb.out.alloc _).grown hgrow (fun j hj => by have := (hlt2 j hj).1; omega))
            have Pc := Lib.hid ((Pb.out.alloc _).grown hgrow (fun j hj => by have := (hlt2 j hj).1; omega))
            have hown3 := Lib.hid (show wc.ownsRow W4.heap.size 55 11 v2 (k + 1) ((out ++ [rp]).flatMap encRp) by rw [List.flatMap_append]; exact hown)
            clear hown hgrow hlt2 OO Sb Pb hob2 Ob
            go_wp2
            go_roundg (m - (k + 1))
            case rel => exact ⟨k + 1, out ++ [rp], qn, by omega, Nat.le_refl _, by go_num, hl3, hsg, Sc, Pc, hown3, Oc, HR⟩
            case measure => omega
          · have hqh := Lib.hid (show q.heard s x = qm by rw [hHD.out, hac.out, if_neg hc])
            have tc : (ac == 0) = false := by simp [hc]
            have S9 := Lib.hid (show Blk w8 gs 82 ((q.heard s x).src.flatMap encKw).toArray by rw [hqh.out]; exact S8.out)
            have P9 := Lib.hid (show Blk w8 (gs + 1) 84 (plC s A c (some ⟨b, off, none⟩) c' (.slice (some ⟨gs, 0, none⟩) s.errs.length s.errs.length) (q.heard s x)).toArray by rw [hqh.out]; exact P8.out)
            have O9 := Lib.hid O8.out
            clear hqh hHD hal hah hxl hc d0 d1 d2 d3 d4 d5 S8 P8 O8 KS
            generalize q.heard s x = qh at *
            have MG := Lib.hid (merge_ok s A (some ⟨b, off, none⟩) c c' gs s.errs.length qh (gs + 1) _ _ w8 (k + 1) (by omega) ok.out hhd.out P9.out S9.out)
            go_wp2_with fail
            refine (MG.out).mono ?_
            rintro e wa ⟨rfl, hba, hoa⟩
            have Sa := Lib.hid (show Blk wa gs 82 ((qh.merged s).src.flatMap encKw).toArray by rw [merged_src]; exact S9.out.keepO hoa F4 F4)
            have Oa := Lib.hid (O9.out.trans hoa.one.swap)
            have RP := Lib.hid (report_ok s A (some ⟨b, off, none⟩) c c' (.slice (some ⟨gs, 0, none⟩) s.errs.length s.errs.length) (qh.merged s) (gs + 1) _ wa (k + 1) (by omega) ok.out (hhd.out.merged ok.out (by omega)) hba)
            have hsg := Lib.hid ((hhd.out.merged ok.out (by omega)).seen ok.out (by omega))
            clear hba hoa MG P9 S9 O9
            go_wp2_with fail
            refine (RP.out).mono ?_
            rintro e wb ⟨rfl, hbb, hob⟩
            have Sb := Lib.hid (show Blk wb gs 82 ((qh.merged s).seen.src.flatMap encKw).toArray by rw [seen_src]; exact Sa.out.keepO hob F4 F4)
            have Ob := Lib.hid (Oa.out.trans hob.one.swap)
            have Pb := Lib.hid hbb
            have hob2 := Lib.hid (own_only ho5.out Ob.out (by omega) (by omega))
            have OO := Lib.hid (O5.out.trans Ob.out)
            have hzb : W4.heap.size ≤ wb.heap.size := OO.out.size
            clear hbb hob RP Sa Oa hhd hmv
            generalize (qh.merged s).seen = qn at *
            generalize hrr : qn.rp = rp at *
            have hl3 := Lib.hid (show (out ++ [rp]).length = k + 1 by rw [List.length_append, hlen.out]; rfl)
            have HR : Hid ((out ++ [rp]) ++ runL s (s.steps.drop (k + 1)) qn = R) := Lib.hid (by rw [← hRx.out]; simp)
            clear hrr hRx
            have hsz : (k + 1) * 80 ≤ 140737488355328 := by omega
            dsimp only [vRp]
            go_wp2_with (at_builtin; refine wpList_append_own _ rfl (.tmp 65) (.tmp 68) 35 rfl W4.heap.size 55 i0 _ 11 80 Tryz.underlying35 hi hz0 hz1 hz2 rfl (by decide) _ k (out.flatMap encRp) rfl ?c0 _ 1 1 [.int .i64 rp.loc, .int .i64 rp.tru, .bool rp.some, .int .i64 rp.lo, .int .i64 rp.hi, .int .i64 rp.ck.aim, .int .i64 rp.ck.rate, .bool rp.ck.set, .bool rp.ck.held, .int .i64 rp.ck.a, .int .i64 rp.ck.shown] rfl rfl ?c1 ?c2 ?c3 hsz ?c5 ?_)
            case c0 => exact hob2.out.alloc _
            case c1 => exact World.news_of_block (cs := #[.int .i64 rp.loc, .int .i64 rp.tru, .bool rp.some, .int .i64 rp.lo, .int .i64 rp.hi, .int .i64 rp.ck.aim, .int .i64 rp.ck.rate, .bool rp.ck.set, .bool rp.ck.held, .int .i64 rp.ck.a, .int .i64 rp.ck.shown]) (t := 55) (fr := (0, 0)) (new_at (by simp))
            case c2 => simp [Value.oneCell']
            case c3 => unfold maxLen; omega
            case c5 => simp; omega
            intro v2 wc hown hgrow _
            have hlt2 := hob2.out.lt
            have Oc := Lib.hid ((OO.out.alloc _).grown hgrow (fun j hj => (hlt2 j hj).1))
            have Sc := Lib.hid ((Sb.out.alloc _).grown hgrow (fun j hj => by have := (hlt2 j hj).1; omega))
            have Pc := Lib.hid ((Pb.out.alloc _).grown hgrow (fun j hj => by have := (hlt2 j hj).1; omega))
            have hown3 := Lib.hid (show wc.ownsRow W4.heap.size 55 11 v2 (k + 1) ((out ++ [rp]).flatMap encRp) by rw [List.flatMap_append]; exact hown)
            clear hown hgrow hlt2 OO Sb Pb hob2 Ob
            go_wp2
            go_roundg (m - (k + 1))
            case rel => exact ⟨k + 1, out ++ [rp], qn, by omega, Nat.le_refl _, by go_num, hl3, hsg, Sc, Pc, hown3, Oc, HR⟩
            case measure => omega
      · obtain rfl : m = k := by omega
        have hRk' := hRk.out
        rw [List.drop_eq_nil_of_le (by rw [hm2.out]; omega)] at hRk'
        have hRe : out = R := by simpa [runL] using hRk'
        obtain ⟨A2, c2, rfl, hrd⟩ := RdL.of_own (enc := encRp) (k := 11) (n := m) (fun _ => rfl) ho.out hlen.out (by omega)
        have K := Lib.hid ((P'.out (.returned (.tuple #[.slice A2 m c2, .int .i64 0])) wr).2 ⟨A2, c2, by rw [← hRe, hlen.out], by rw [← hRe, hlen.out]; exact hrd, Only.below hB4.out hO.out (by omega) (by omega)⟩)
        clear hrd
        go_wp2
        exact K.out
  · have hRn : R = [] := by rw [← hR.out]; unfold Sch.run; rw [if_neg (by rw [hq.out]; exact hq1)]
    clear hst' hR
    dsimp only [vSch] at *
    go_enter Tryz.func14, Tryz.ntmps14
    go_wp2_with fail
    refine (C.out _ (below_alloc (Below.refl _ _) _)).mono ?_
    rintro e w1 ⟨rfl, hb1⟩
    have hB1 := below_then (below_alloc (Below.refl _ _) _) hb1
    have K := Lib.hid ((P'.out (.returned (.tuple #[.slice none 0 0, .int .i64 q])) w1).2 ⟨none, 0, by rw [hRn]; rfl, by rw [hRn]; exact RdL.nil _ _ _ _ _, hB1⟩)
    clear hb1 hB1 C
    go_wp2
    exact K.out
end Go.Proofs.YtnafhblioabkgaaGreat
