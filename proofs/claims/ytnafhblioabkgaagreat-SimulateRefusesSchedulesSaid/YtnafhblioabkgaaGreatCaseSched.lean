/- The statements' maker of schedules: a schedule. -/
import Derived.Test.YtnafhblioabkgaaGreatCaseStep
import Derived.Test.YtnafhblioabkgaaGreatLaw
namespace Go.Proofs.YtnafhblioabkgaaGreat
open Go.RowKit

def scF (g z : Nat) : Nat → Value → World → Prop
  | 0, x, _ => x = .pointer (some ⟨g, 0, none⟩)
  | 1, x, _ => ∃ d : Int, x = .int .i64 d
  | 2, x, _ => x = .pointer (some ⟨g, 0, none⟩)
  | 3, x, _ => ∃ d : Int, x = .int .i64 d
  | 4, x, W => ∃ b : Nat, x = .slice (some ⟨b, 0, none⟩) 4 4 ∧ b ≠ g ∧ Blk W b 3 #[.int .i64 0, .int .i64 50000, .int .i64 1000000, .int .i64 200]
  | 5, x, _ => x = .pointer (some ⟨g, 0, none⟩)
  | 6, x, _ => ∃ r : Int, x = .int .i64 r ∧ 0 ≤ r ∧ r < 4
  | 7, x, W => ∃ b k : Nat, x = .pointer (some ⟨b, k, none⟩) ∧ k < 4 ∧ b ≠ g ∧ Blk W b 3 #[.int .i64 0, .int .i64 50000, .int .i64 1000000, .int .i64 200]
  | 8, x, _ => ∃ d : Int, x = .int .i64 d ∧ 0 ≤ d ∧ d ≤ 1000000
  | 9, x, W => ∃ b : Nat, x = .slice (some ⟨b, 0, none⟩) 3 3 ∧ b ≠ g ∧ Blk W b 3 #[.int .i64 0, .int .i64 500, .int .i64 1000]
  | 10, x, _ => x = .pointer (some ⟨g, 0, none⟩)
  | 11, x, _ => ∃ r : Int, x = .int .i64 r ∧ 0 ≤ r ∧ r < 3
  | 12, x, W => ∃ b k : Nat, x = .pointer (some ⟨b, k, none⟩) ∧ k < 3 ∧ b ≠ g ∧ Blk W b 3 #[.int .i64 0, .int .i64 500, .int .i64 1000]
  | 13, x, _ => ∃ d : Int, x = .int .i64 d
  | 14, x, _ => ∃ st lo pp ai : Int, x = .agg #[.int .i64 st, .int .i64 lo, .int .i64 pp, .int .i64 0, .int .i64 ai, .slice none 0 0, .slice none 0 0] ∧ 0 ≤ pp ∧ pp ≤ 1000000
  | 15, x, W => ∃ p : Nat, x = .pointer (some ⟨p, 0, none⟩) ∧ p ≠ g ∧ z ≤ p ∧ Blk W p 25 #[.int .i64 0, .int .i64 0, .int .i64 0, .int .i64 0, .int .i64 0, .slice none 0 0, .slice none 0 0]
  | _, _, _ => True
def scFr (g qb : Nat) (nmax : Int) (ly : Bool) (v : Nat → Value) : Act := ⟨#[.pointer (some ⟨g, 0, none⟩), .int .i64 nmax, .bool ly, undef, undef, undef, .pointer (some ⟨qb, 0, none⟩), v 7, undef, undef, undef, v 11, v 12, v 13, v 14, v 15, v 16, v 17, v 18, v 19, v 20, v 21, v 22, v 23, v 24, v 25, undef, undef, undef, undef, undef, undef, undef, undef, undef, undef, undef, undef, undef, undef, undef, undef, undef, undef, undef, undef, undef, undef, undef, undef, undef, undef, undef, undef, undef, undef, undef, undef, undef, undef, undef, undef, undef, undef, undef, undef, undef, undef], []⟩
theorem scF_keep {g z : Nat} {i : Nat} {x : Value} {w w' : World} (h : scF g z i x w) (ho : Only g g w w') : scF g z i x w' := by
  unfold scF at *
  split at h
  all_goals first
    | exact h
    | (obtain ⟨b, h1, h2, h3⟩ := h; exact ⟨b, h1, h2, h3.keepO ho h2 h2⟩)
    | (obtain ⟨b, k, h1, h2, h3, h4⟩ := h; exact ⟨b, k, h1, h2, h3, h4.keepO ho h3 h3⟩)
    | (obtain ⟨b, h1, h2, h3, h4⟩ := h; exact ⟨b, h1, h2, h3, h4.keepO ho h2 h2⟩)
theorem fill7 {w : World} {p : Nat} {t : TypeId} {z0 z1 z2 z3 z4 z5 z6 a0 a1 a2 a3 a4 a5 a6 : Value} (h : Blk w p t #[z0, z1, z2, z3, z4, z5, z6]) : Blk ((((((((w.setCell ⟨p, 0, none⟩ a0).setCell ⟨p, 1, none⟩ a1).setCell ⟨p, 2, none⟩ a2).setCell ⟨p, 3, none⟩ a3).setCell ⟨p, 4, none⟩ a4).setCell ⟨p, 5, none⟩ a5).setCell ⟨p, 6, none⟩ a6)) p t #[a0, a1, a2, a3, a4, a5, a6] := by
  have h0 : Blk (w.setCell ⟨p, 0, none⟩ a0) p t #[a0, z1, z2, z3, z4, z5, z6] := h.set 0 a0
  have h1 : Blk ((w.setCell ⟨p, 0, none⟩ a0).setCell ⟨p, 1, none⟩ a1) p t #[a0, a1, z2, z3, z4, z5, z6] := h0.set 1 a1
  have h2 : Blk (((w.setCell ⟨p, 0, none⟩ a0).setCell ⟨p, 1, none⟩ a1).setCell ⟨p, 2, none⟩ a2) p t #[a0, a1, a2, z3, z4, z5, z6] := h1.set 2 a2
  have h3 : Blk ((((w.setCell ⟨p, 0, none⟩ a0).setCell ⟨p, 1, none⟩ a1).setCell ⟨p, 2, none⟩ a2).setCell ⟨p, 3, none⟩ a3) p t #[a0, a1, a2, a3, z4, z5, z6] := h2.set 3 a3
  have h4 : Blk (((((w.setCell ⟨p, 0, none⟩ a0).setCell ⟨p, 1, none⟩ a1).setCell ⟨p, 2, none⟩ a2).setCell ⟨p, 3, none⟩ a3).setCell ⟨p, 4, none⟩ a4) p t #[a0, a1, a2, a3, a4, z5, z6] := h3.set 4 a4
  have h5 : Blk ((((((w.setCell ⟨p, 0, none⟩ a0).setCell ⟨p, 1, none⟩ a1).setCell ⟨p, 2, none⟩ a2).setCell ⟨p, 3, none⟩ a3).setCell ⟨p, 4, none⟩ a4).setCell ⟨p, 5, none⟩ a5) p t #[a0, a1, a2, a3, a4, a5, z6] := h4.set 5 a5
  have h6 : Blk (((((((w.setCell ⟨p, 0, none⟩ a0).setCell ⟨p, 1, none⟩ a1).setCell ⟨p, 2, none⟩ a2).setCell ⟨p, 3, none⟩ a3).setCell ⟨p, 4, none⟩ a4).setCell ⟨p, 5, none⟩ a5).setCell ⟨p, 6, none⟩ a6) p t #[a0, a1, a2, a3, a4, a5, a6] := h5.set 6 a6
  exact h6

def seF (g p z E k c : Nat) (A : Option Addr) (errs : List Int) : Nat → Value → World → Prop
  | 0, x, _ => x = .pointer (some ⟨p, 5, none⟩)
  | 1, x, _ => x = .slice A k c
  | 2, x, W => ∃ b : Nat, x = .slice (some ⟨b, 0, none⟩) 3 3 ∧ z ≤ b ∧ Blk W b 3 #[.int .i64 0, .int .i64 3, .int .i64 20]
  | 3, x, _ => x = .pointer (some ⟨g, 0, none⟩)
  | 4, x, _ => ∃ r : Int, x = .int .i64 r ∧ 0 ≤ r ∧ r < 3
  | 5, x, W => ∃ b j : Nat, x = .pointer (some ⟨b, j, none⟩) ∧ j < 3 ∧ z ≤ b ∧ Blk W b 3 #[.int .i64 0, .int .i64 3, .int .i64 20]
  | 6, x, _ => ∃ d : Int, x = .int .i64 d ∧ 0 ≤ d ∧ d ≤ 20
  | 7, x, W => ∃ (b : Nat) (d : Int), x = .slice (some ⟨b, 0, none⟩) 1 1 ∧ 0 ≤ d ∧ d ≤ 20 ∧ z ≤ b ∧ Blk W b 3 #[.int .i64 d]
  | 8, x, W => ∃ (d : Int) (A2 : Option Addr) (c2 : Nat), x = .slice A2 (k + 1) c2 ∧ 0 ≤ d ∧ d ≤ 20 ∧ W.ownsRow E 3 1 x (k + 1) ((errs ++ [d]).flatMap encI)
  | 9, x, _ => x = .pointer (some ⟨p, 5, none⟩)
  | _, _, _ => True
def seFr (g qb p kk k : Nat) (nmax : Int) (ly : Bool) (w11 w12 w13 w14 w15 w16 w17 w18 w19 w20 w21 w22 w23 w24 w25 w26 w27 w28 w29 w30 w31 w32 w33 w34 : Value) (v : Nat → Value) : Act := ⟨#[.pointer (some ⟨g, 0, none⟩), .int .i64 nmax, .bool ly, undef, undef, undef, .pointer (some ⟨qb, 0, none⟩), .pointer (some ⟨p, 0, none⟩), .int .i64 (1 + (kk : Int)), .int .i64 (k : Int), undef, w11, w12, w13, w14, w15, w16, w17, w18, w19, w20, w21, w22, w23, w24, w25, w26, w27, w28, w29, w30, w31, w32, w33, w34, v 35, v 36, v 37, v 38, v 39, v 40, v 41, v 42, v 43, v 44, v 45, v 46, v 47, v 48, v 49, undef, undef, undef, undef, undef, undef, undef, undef, undef, undef, undef, undef, undef, undef, undef, undef, undef, undef], []⟩
def ssF (g p z E : Nat) (ly : Bool) (A A2 : Option Addr) (c c2 : Nat) (st lo pp li ai : Int) (errs : List Int) (steps : List Stp) : Nat → Value → World → Prop
  | 0, x, _ => x = .pointer (some ⟨p, 6, none⟩)
  | 1, x, _ => x = .slice A2 steps.length c2
  | 2, x, _ => x = .pointer (some ⟨g, 0, none⟩)
  | 3, x, _ => x = .agg #[.int .i64 st, .int .i64 lo, .int .i64 pp, .int .i64 li, .int .i64 ai, .slice A errs.length c, .slice A2 steps.length c2]
  | 4, x, _ => x = .bool ly
  | 5, x, _ => ∃ y : Stp, x = vStp y
  | 6, x, W => ∃ (b : Nat) (y : Stp), x = .slice (some ⟨b, 0, none⟩) 1 1 ∧ z ≤ b ∧ Blk W b 45 #[.int .i64 y.src, .int .i64 y.tru, .int .i64 y.loc, .int .i64 y.out, .int .i64 y.outL, .int .i64 y.hold, .int .i64 y.holdL, .int .i64 y.back, .int .i64 y.backL, .int .i64 y.w2, .int .i64 y.w3]
  | 7, x, W => ∃ (y : Stp) (A3 : Option Addr) (c3 : Nat), x = .slice A3 (steps.length + 1) c3 ∧ W.ownsRow E 45 11 x (steps.length + 1) ((steps ++ [y]).flatMap encStp)
  | 8, x, _ => x = .pointer (some ⟨p, 6, none⟩)
  | _, _, _ => True
def ssFr (g qb p kk k j : Nat) (nmax : Int) (ly : Bool) (w11 w12 w13 w14 w15 w16 w17 w18 w19 w20 w21 w22 w23 w24 w25 w26 w27 w28 w29 w30 w31 w32 w33 w34 w35 w36 w37 w38 w39 w40 w41 w42 w43 w44 w45 w46 w47 w48 w49 w50 w51 w52 w53 : Value) (v : Nat → Value) : Act := ⟨#[.pointer (some ⟨g, 0, none⟩), .int .i64 nmax, .bool ly, undef, undef, undef, .pointer (some ⟨qb, 0, none⟩), .pointer (some ⟨p, 0, none⟩), .int .i64 (1 + (kk : Int)), .int .i64 (k : Int), .int .i64 (j : Int), w11, w12, w13, w14, w15, w16, w17, w18, w19, w20, w21, w22, w23, w24, w25, w26, w27, w28, w29, w30, w31, w32, w33, w34, w35, w36, w37, w38, w39, w40, w41, w42, w43, w44, w45, w46, w47, w48, w49, w50, w51, w52, w53, v 54, v 55, v 56, v 57, v 58, v 59, v 60, v 61, v 62, v 63, v 64, v 65, v 66, undef], []⟩
theorem own_farO {w w' : World} {a b B e size n : Nat} {v : Value} {xs : List Value} (h : w.ownsRow B e size v n xs) (ho : Only a b w w') (ha : a < B) (hb : ∀ kb, v.ownBlock = some kb → kb ≠ b) : w'.ownsRow B e size v n xs :=
  ⟨h.1, h.2.imp id fun ⟨g, cap, cur, e1, hg, hgg, rest⟩ => ⟨g, cap, cur, e1, hg, (ho.block g (Array.getElem?_eq_some_iff.1 hgg).1 (by omega) (hb g (by rw [e1]; rfl))).trans hgg, rest⟩⟩
theorem ssF_keep {g p z E c c2 rb : Nat} {ly : Bool} {A A2 : Option Addr} {st lo pp li ai : Int} {errs : List Int} {steps : List Stp} {i j : Nat} {x : Value} {w w' : World} (hij : i ≠ j) (h : ssF g p z E ly A A2 c c2 st lo pp li ai errs steps j x w) (hg : g < z) (hr : rb < z) (hE : g < E) (ho : if i = 7 then Only g rb w w' else Only g g w w') : ssF g p z E ly A A2 c c2 st lo pp li ai errs steps j x w' := by
  have h1 : j ≠ 7 → Only g rb w w' := fun hj => by
    split at ho
    · exact ho
    · exact ho.one
  have h2 : j = 7 → Only g g w w' := fun hj => by
    rw [if_neg (by omega)] at ho
    exact ho
  unfold ssF at *
  split at h
  all_goals first
    | exact h
    | trivial
    | (obtain ⟨b, y, e1, e2, e3⟩ := h; exact ⟨b, y, e1, e2, e3.keepO (h1 (by decide)) (by omega) (by omega)⟩)
    | (obtain ⟨y, A3, c3, e1, e2⟩ := h; exact ⟨y, A3, c3, e1, own_only e2 (h2 rfl) hE hE⟩)
theorem seF_keep {g p z E k c rb : Nat} {A : Option Addr} {errs : List Int} {i j : Nat} {x : Value} {w w' : World} (hij : i ≠ j) (h : seF g p z E k c A errs j x w) (hg : g < z) (hr : rb < z) (hE : g < E) (ho : if i = 8 then Only g rb w w' else Only g g w w') : seF g p z E k c A errs j x w' := by
  have h1 : j ≠ 8 → Only g rb w w' := fun hj => by
    split at ho
    · exact ho
    · exact ho.one
  have h2 : j = 8 → Only g g w w' := fun hj => by
    rw [if_neg (by omega)] at ho
    exact ho
  unfold seF at *
  split at h
  all_goals first
    | exact h
    | trivial
    | (obtain ⟨b, e1, e2, e3⟩ := h; exact ⟨b, e1, e2, e3.keepO (h1 (by decide)) (by omega) (by omega)⟩)
    | (obtain ⟨b, j', e1, e2, e3, e4⟩ := h; exact ⟨b, j', e1, e2, e3, e4.keepO (h1 (by decide)) (by omega) (by omega)⟩)
    | (obtain ⟨b, d, e1, e2, e3, e4, e5⟩ := h; exact ⟨b, d, e1, e2, e3, e4, e5.keepO (h1 (by decide)) (by omega) (by omega)⟩)
    | (obtain ⟨d, A2, c2, e1, e2, e3, e4⟩ := h; exact ⟨d, A2, c2, e1, e2, e3, own_only e4 (h2 rfl) hE hE⟩)
theorem grown_only {w w' : World} {a b : Nat} {row : Option Nat} (h : w.grownBy w' row) (hr : ∀ k, row = some k → k = a ∨ k = b) : Only a b w w' :=
  ⟨h.os, h.tape, h.output, h.size, fun k hk ha hb => h.block k hk (fun e => by rcases hr k e.symm with h | h <;> omega)⟩
theorem Tp.grown {w w' : World} {g B : Nat} {A : Option Addr} {n c : Nat} {l : List Int} {row : Option Nat} (h : Tp w g B A n c l) (hg : w.grownBy w' row) (hr : ∀ k, row = some k → g < k) : Tp w' g B A n c l := by
  obtain ⟨k, hk, hb⟩ := h.blk
  have hs := h.size
  have hl := h.lt
  exact ⟨⟨k, hk, hb.grown hg (fun j hj => by have := hr j hj; omega)⟩, h.rd.keep fun b o hb => World.cell?_of_block (a := ⟨b, o, none⟩) (hg.block b (by omega) (fun e => by have := hr b e.symm; omega)), h.lt⟩
theorem only_new {w w1 w2 : World} {g rb : Nat} (h : Only g g w w1) (k : Only g rb w1 w2) (hr : rb = g ∨ w.heap.size ≤ rb) : Only g g w w2 :=
  ⟨k.os.trans h.os, k.tape.trans h.tape, k.output.trans h.output, Nat.le_trans h.size k.size, fun j hj ha hb => (k.block j (Nat.lt_of_lt_of_le hj h.size) ha (by omega)).trans (h.block j hj ha ha)⟩
theorem wp_append_any {P : Program} {w : World} {o : Oper} {a : Act} {K : Act → World → Prop} {Q : Exit → Act → World → Prop} (s x : Operand) (t : TypeId)
    (ho : o.op = .call { callee := .builtin .append, args := #[s, x], argTypes := #[t, t] })
    (base : Nat) (e : TypeId) (i : TypeInfo) (z : Value) (size bytes : Nat) (ht : P.underlying t = some (.slice e)) (hi : P.info? e = some i) (hz : i.zero = some z)
    (hsize : i.size = size) (hby : i.bytes = bytes) (hzs : z.cells.size = size) (hsz : 0 < size)
    (v : Value) (n : Nat) (xs : List Value) (hs : a.eval s = v) (hown : w.ownsRow base e size v n xs)
    (A : Option Addr) (m c : Nat) (news : List Value) (hx : a.eval x = .slice A m c) (hl : news.length = m * size) (hA : 0 < m → ∃ a, A = some a ∧ ∀ j u, news[j]? = some u → w.cell? (a.add j) = some u) (h1 : ∀ u ∈ news, u.oneCell' = true)
    (h63 : n + m ≤ maxLen) (hbytes : (n + m) * bytes ≤ 140737488355328) (hbase : base ≤ w.heap.size)
    (h : ∀ v' w', w'.ownsRow base e size v' (n + m) (xs ++ news) → w.grownBy w' v.ownBlock → K (a.put o.dst v') w') : Oper.wp P o a w K Q := by
  obtain ⟨v', w', hr, h2, h3⟩ := run_append_any (P := P) w t o.type base e i z size bytes ht hi hz hsize hby hzs hsz v n xs hown A m c news hl hA h1 h63 hbytes hbase
  unfold Oper.wp execOp
  simp only [ho, resolve, invoke, builtin, Sem.run_bind, Sem.run_pure, Result.andThen_ok, List.map_toArray, List.map_cons, List.map_nil, hs, hx, hr]
  exact h v' w' h2 h3
/-- Its lists lie in blocks of their own. -/
def SchedOwn (s : Sch) (A : Option Addr) (c : Nat) (A' : Option Addr) (c' : Nat) (w w' : World) : Prop :=
  ∃ E F, w'.ownsRow E 3 1 (.slice A s.errs.length c) s.errs.length (s.errs.flatMap encI) ∧ w'.ownsRow F 45 11 (.slice A' s.steps.length c') s.steps.length (s.steps.flatMap encStp) ∧ (∀ kb, (Value.slice A s.errs.length c).ownBlock = some kb → kb < F) ∧ w.heap.size ≤ E ∧ w.heap.size ≤ F
/-- What is made: a schedule of at most 5 sources and 16 steps. -/
def SchedPost (g : Nat) (w : World) (e : Ending) (w' : World) : Prop :=
  ∃ (s : Sch) (A : Option Addr) (c : Nat) (A' : Option Addr) (c' : Nat), e = .returned (vSch s A c A' c') ∧ 1 ≤ s.errs.length ∧ s.errs.length ≤ 5 ∧ 1 ≤ s.steps.length ∧ s.steps.length ≤ 16 ∧ RdL encI 1 w' w'.heap.size A s.errs.length s.errs ∧ RdL encStp 11 w' w'.heap.size A' s.steps.length s.steps ∧ Only g g w w' ∧ w.heap.size < w'.heap.size ∧ SchedOwn s A c A' c' w w'
set_option maxHeartbeats 8000000 in
set_option maxRecDepth 100000 in
theorem Schedule_ok (nmax : Int) (ly : Bool) (w : World) (g B : Nat) (At : Option Addr) (nt ct : Nat) (l : List Int) (hT : Tp w g B At nt ct l) (hn0 : 1 ≤ nmax) (hn1 : nmax ≤ 16) :
    Calls Tryz.prog 8 #[.pointer (some ⟨g, 0, none⟩), .int .i64 nmax, .bool ly] w (SchedPost g w) := by
  obtain ⟨i0, hi0, hz0, hz1, hz2⟩ := info_parts infoI
  obtain ⟨j0, hj0, hw0, hw1, hw2⟩ := info_parts infoStp
  obtain ⟨W, hW⟩ : ∃ W, W = w.alloc (.cells #[.int .i64 0, .int .i64 0, .int .i64 0, .int .i64 0, .int .i64 0, .slice none 0 0, .slice none 0 0] 25) := ⟨_, rfl⟩
  have BW := Lib.hid (show Below w.heap.size w W by rw [hW]; exact below_alloc (Below.refl _ _) _)
  have SR := Lib.hid (show Blk W w.heap.size 25 #[.int .i64 0, .int .i64 0, .int .i64 0, .int .i64 0, .int .i64 0, .slice none 0 0, .slice none 0 0] by rw [hW]; exact Blk.new _ _ _)
  have TT := Lib.hid (hT.below BW.out)
  have hz := hT.size
  have zW : W.heap.size = w.heap.size + 1 := by rw [hW]; simp
  have TD := Lib.hid (TT.out.below (below_drew (Below.refl _ _)))
  clear hT
  go_enter Tryz.func8, Tryz.ntmps8
  go_wp2_with fail
  rw [← hW]
  clear hW
  refine wp_region_facts (by kernel_rfl) (scFr g w.heap.size nmax ly) (fun _ => undef) (by rfl) (scF g W.heap.size) (fun _ W1 => Only g g W.drew W1 ∧ Tp W1 g B At nt ct l) (fun _ W1 W2 => Only g g W1 W2) 16 (by rfl) ?hgl (by kernel_rfl) (by kernel_rfl) (by kernel_rfl) ?hX0 (fun i j x w1 w2 _ h k => scF_keep h k) ?hdst ?hop ?hend
  case hX0 => exact ⟨Only.refl _ _ _, TD.out⟩
  case hgl => intro o ho; obtain rfl := Option.some.inj ho; rfl
  case hdst =>
    intro i o hi ho
    obtain rfl | rfl | rfl | rfl | rfl | rfl | rfl | rfl | rfl | rfl | rfl | rfl | rfl | rfl | rfl | rfl : i = 0 ∨ i = 1 ∨ i = 2 ∨ i = 3 ∨ i = 4 ∨ i = 5 ∨ i = 6 ∨ i = 7 ∨ i = 8 ∨ i = 9 ∨ i = 10 ∨ i = 11 ∨ i = 12 ∨ i = 13 ∨ i = 14 ∨ i = 15 := by omega
    all_goals
      obtain rfl := Option.some.inj ho
      exact ⟨_, rfl, rfl, fun _ _ => rfl⟩
  case hop =>
    intro i o L v W1 hi ho hu hX hd K hK
    obtain rfl | rfl | rfl | rfl | rfl | rfl | rfl | rfl | rfl | rfl | rfl | rfl | rfl | rfl | rfl | rfl : i = 0 ∨ i = 1 ∨ i = 2 ∨ i = 3 ∨ i = 4 ∨ i = 5 ∨ i = 6 ∨ i = 7 ∨ i = 8 ∨ i = 9 ∨ i = 10 ∨ i = 11 ∨ i = 12 ∨ i = 13 ∨ i = 14 ∨ i = 15 := by omega
    · obtain rfl := Option.some.inj ho
      simp only [scFr] at hK ⊢
      go_simp
      exact hK _ _ hX (Only.refl g g _) rfl
    · obtain rfl := Option.some.inj ho
      have h0 : (v 11) = .pointer (some ⟨g, 0, none⟩) := hd ⟨0, .data⟩ (by simp) rfl _ 11 rfl rfl
      simp only [scFr, h0] at hK ⊢
      go_simp
      refine (Range_ok (-1000) 1000 W1 g B At nt ct l hX.2 (by omega) (by omega) (by omega)).mono ?_
      rintro e w2 ⟨⟨r, rfl, r0, r1⟩, ht, ho⟩
      exact hK _ _ ⟨hX.1.trans ho, ht⟩ ho ⟨r, rfl⟩
    · obtain rfl := Option.some.inj ho
      simp only [scFr] at hK ⊢
      go_simp
      exact hK _ _ hX (Only.refl g g _) rfl
    · obtain rfl := Option.some.inj ho
      have h2 : (v 13) = .pointer (some ⟨g, 0, none⟩) := hd ⟨2, .data⟩ (by simp) rfl _ 13 rfl rfl
      simp only [scFr, h2] at hK ⊢
      go_simp
      refine (Range_ok (-500) 500 W1 g B At nt ct l hX.2 (by omega) (by omega) (by omega)).mono ?_
      rintro e w2 ⟨⟨r, rfl, r0, r1⟩, ht, ho⟩
      exact hK _ _ ⟨hX.1.trans ho, ht⟩ ho ⟨r, rfl⟩
    · obtain rfl := Option.some.inj ho
      simp only [scFr] at hK ⊢
      go_simp
      have hgz : g < W1.heap.size := hX.2.size
      exact hK _ _ ⟨hX.1.alloc _, hX.2.below (below_alloc (Below.refl _ _) _)⟩ ((Only.refl g g _).alloc _) ⟨W1.heap.size, rfl, by omega, Blk.new _ _ _⟩
    · obtain rfl := Option.some.inj ho
      simp only [scFr] at hK ⊢
      go_simp
      exact hK _ _ hX (Only.refl g g _) rfl
    · obtain rfl := Option.some.inj ho
      have h5 : (v 16) = .pointer (some ⟨g, 0, none⟩) := hd ⟨5, .data⟩ (by simp) rfl _ 16 rfl rfl
      simp only [scFr, h5] at hK ⊢
      go_simp
      refine (Int_ok 4 W1 g B At nt ct l hX.2 (by omega) (by omega)).mono ?_
      rintro e w2 ⟨⟨r, rfl, r0, r1⟩, ht, ho⟩
      exact hK _ _ ⟨hX.1.trans ho, ht⟩ ho ⟨r, rfl, r0, r1⟩
    · obtain rfl := Option.some.inj ho
      have h4 : ∃ b : Nat, (v 15) = .slice (some ⟨b, 0, none⟩) 4 4 ∧ b ≠ g ∧ Blk W1 b 3 #[.int .i64 0, .int .i64 50000, .int .i64 1000000, .int .i64 200] := hd ⟨4, .data⟩ (by simp) rfl _ 15 rfl rfl
      have h6 : ∃ r : Int, (v 17) = .int .i64 r ∧ 0 ≤ r ∧ r < 4 := hd ⟨6, .data⟩ (by simp) rfl _ 17 rfl rfl
      obtain ⟨b, h4, hb1, hb2⟩ := h4
      obtain ⟨r, h6, r0, r1⟩ := h6
      obtain ⟨k, rfl⟩ : ∃ k : Nat, r = k := ⟨r.toNat, by omega⟩
      simp only [scFr, h4, h6] at hK ⊢
      go_simp
      exact hK _ _ hX (Only.refl g g _) ⟨b, k, rfl, by omega, hb1, hb2⟩
    · obtain rfl := Option.some.inj ho
      have h7 : ∃ b k : Nat, (v 18) = .pointer (some ⟨b, k, none⟩) ∧ k < 4 ∧ b ≠ g ∧ Blk W1 b 3 #[.int .i64 0, .int .i64 50000, .int .i64 1000000, .int .i64 200] := hd ⟨7, .data⟩ (by simp) rfl _ 18 rfl rfl
      obtain ⟨b, k, h7, hk, hb1, hb2⟩ := h7
      obtain rfl | rfl | rfl | rfl : k = 0 ∨ k = 1 ∨ k = 2 ∨ k = 3 := by omega
      · have c0 : W1.cell? ⟨b, 0, none⟩ = some (.int .i64 0) := hb2.cell 0
        simp only [scFr, h7] at hK ⊢
        go_simp
        exact hK _ _ hX (Only.refl g g _) ⟨0, rfl, by omega, by omega⟩
      · have c0 : W1.cell? ⟨b, 1, none⟩ = some (.int .i64 50000) := hb2.cell 1
        simp only [scFr, h7] at hK ⊢
        go_simp
        exact hK _ _ hX (Only.refl g g _) ⟨50000, rfl, by omega, by omega⟩
      · have c0 : W1.cell? ⟨b, 2, none⟩ = some (.int .i64 1000000) := hb2.cell 2
        simp only [scFr, h7] at hK ⊢
        go_simp
        exact hK _ _ hX (Only.refl g g _) ⟨1000000, rfl, by omega, by omega⟩
      · have c0 : W1.cell? ⟨b, 3, none⟩ = some (.int .i64 200) := hb2.cell 3
        simp only [scFr, h7] at hK ⊢
        go_simp
        exact hK _ _ hX (Only.refl g g _) ⟨200, rfl, by omega, by omega⟩
    · obtain rfl := Option.some.inj ho
      simp only [scFr] at hK ⊢
      go_simp
      have hgz : g < W1.heap.size := hX.2.size
      exact hK _ _ ⟨hX.1.alloc _, hX.2.below (below_alloc (Below.refl _ _) _)⟩ ((Only.refl g g _).alloc _) ⟨W1.heap.size, rfl, by omega, Blk.new _ _ _⟩
    · obtain rfl := Option.some.inj ho
      simp only [scFr] at hK ⊢
      go_simp
      exact hK _ _ hX (Only.refl g g _) rfl
    · obtain rfl := Option.some.inj ho
      have h10 : (v 21) = .pointer (some ⟨g, 0, none⟩) := hd ⟨10, .data⟩ (by simp) rfl _ 21 rfl rfl
      simp only [scFr, h10] at hK ⊢
      go_simp
      refine (Int_ok 3 W1 g B At nt ct l hX.2 (by omega) (by omega)).mono ?_
      rintro e w2 ⟨⟨r, rfl, r0, r1⟩, ht, ho⟩
      exact hK _ _ ⟨hX.1.trans ho, ht⟩ ho ⟨r, rfl, r0, r1⟩
    · obtain rfl := Option.some.inj ho
      have h9 : ∃ b : Nat, (v 20) = .slice (some ⟨b, 0, none⟩) 3 3 ∧ b ≠ g ∧ Blk W1 b 3 #[.int .i64 0, .int .i64 500, .int .i64 1000] := hd ⟨9, .data⟩ (by simp) rfl _ 20 rfl rfl
      have h11 : ∃ r : Int, (v 22) = .int .i64 r ∧ 0 ≤ r ∧ r < 3 := hd ⟨11, .data⟩ (by simp) rfl _ 22 rfl rfl
      obtain ⟨b, h9, hb1, hb2⟩ := h9
      obtain ⟨r, h11, r0, r1⟩ := h11
      obtain ⟨k, rfl⟩ : ∃ k : Nat, r = k := ⟨r.toNat, by omega⟩
      simp only [scFr, h9, h11] at hK ⊢
      go_simp
      exact hK _ _ hX (Only.refl g g _) ⟨b, k, rfl, by omega, hb1, hb2⟩
    · obtain rfl := Option.some.inj ho
      have h12 : ∃ b k : Nat, (v 23) = .pointer (some ⟨b, k, none⟩) ∧ k < 3 ∧ b ≠ g ∧ Blk W1 b 3 #[.int .i64 0, .int .i64 500, .int .i64 1000] := hd ⟨12, .data⟩ (by simp) rfl _ 23 rfl rfl
      obtain ⟨b, k, h12, hk, hb1, hb2⟩ := h12
      obtain rfl | rfl | rfl : k = 0 ∨ k = 1 ∨ k = 2 := by omega
      · have c0 : W1.cell? ⟨b, 0, none⟩ = some (.int .i64 0) := hb2.cell 0
        simp only [scFr, h12] at hK ⊢
        go_simp
        exact hK _ _ hX (Only.refl g g _) ⟨0, rfl⟩
      · have c0 : W1.cell? ⟨b, 1, none⟩ = some (.int .i64 500) := hb2.cell 1
        simp only [scFr, h12] at hK ⊢
        go_simp
        exact hK _ _ hX (Only.refl g g _) ⟨500, rfl⟩
      · have c0 : W1.cell? ⟨b, 2, none⟩ = some (.int .i64 1000) := hb2.cell 2
        simp only [scFr, h12] at hK ⊢
        go_simp
        exact hK _ _ hX (Only.refl g g _) ⟨1000, rfl⟩
    · obtain rfl := Option.some.inj ho
      have h1 : ∃ d : Int, (v 12) = .int .i64 d := hd ⟨1, .data⟩ (by simp) rfl _ 12 rfl rfl
      have h3 : ∃ d : Int, (v 14) = .int .i64 d := hd ⟨3, .data⟩ (by simp) rfl _ 14 rfl rfl
      have h8 : ∃ d : Int, (v 19) = .int .i64 d ∧ 0 ≤ d ∧ d ≤ 1000000 := hd ⟨8, .data⟩ (by simp) rfl _ 19 rfl rfl
      have h13 : ∃ d : Int, (v 24) = .int .i64 d := hd ⟨13, .data⟩ (by simp) rfl _ 24 rfl rfl
      obtain ⟨st, h1⟩ := h1
      obtain ⟨lo, h3⟩ := h3
      obtain ⟨pp, h8, b1, b2⟩ := h8
      obtain ⟨ai, h13⟩ := h13
      simp only [scFr, h1, h3, h8, h13] at hK ⊢
      go_simp
      exact hK _ _ hX (Only.refl g g _) ⟨st, lo, pp, ai, rfl, b1, b2⟩
    · obtain rfl := Option.some.inj ho
      simp only [scFr] at hK ⊢
      go_simp
      have hgz : g < W1.heap.size := hX.2.size
      have hzz : W.heap.size ≤ W1.heap.size := hX.1.size
      exact hK _ _ ⟨hX.1.alloc _, hX.2.below (below_alloc (Below.refl _ _) _)⟩ ((Only.refl g g _).alloc _) ⟨W1.heap.size, rfl, by omega, hzz, Blk.new _ _ _⟩
  case hend =>
    intro o L v W1 ho hX hF
    obtain rfl := Option.some.inj ho
    have h15 : ∃ p : Nat, (v 7) = .pointer (some ⟨p, 0, none⟩) ∧ p ≠ g ∧ W.heap.size ≤ p ∧ Blk W1 p 25 #[.int .i64 0, .int .i64 0, .int .i64 0, .int .i64 0, .int .i64 0, .slice none 0 0, .slice none 0 0] := hF 15 _ 7 (by omega) rfl rfl
    have h14 : ∃ st lo pp ai : Int, (v 25) = .agg #[.int .i64 st, .int .i64 lo, .int .i64 pp, .int .i64 0, .int .i64 ai, .slice none 0 0, .slice none 0 0] ∧ 0 ≤ pp ∧ pp ≤ 1000000 := hF 14 _ 25 (by omega) rfl rfl
    obtain ⟨p, h15, p1, p2, p3⟩ := h15
    obtain ⟨st, lo, pp, ai, h14, pp0, pp1⟩ := h14
    have hp := p3.lt
    obtain ⟨x0, x1, x2, x3, x4, x5, x6⟩ := blk7 p3
    have f0 := p3.frozen 0
    have f1 := p3.frozen 1
    have f2 := p3.frozen 2
    have f3 := p3.frozen 3
    have f4 := p3.frozen 4
    have f5 := p3.frozen 5
    have f6 := p3.frozen 6
    obtain ⟨Wp, hWp⟩ : ∃ Wp, Wp = (((((((W1.setCell ⟨p, 0, none⟩ (.int .i64 st)).setCell ⟨p, 1, none⟩ (.int .i64 lo)).setCell ⟨p, 2, none⟩ (.int .i64 pp)).setCell ⟨p, 3, none⟩ (.int .i64 0)).setCell ⟨p, 4, none⟩ (.int .i64 ai)).setCell ⟨p, 5, none⟩ (.slice none 0 0)).setCell ⟨p, 6, none⟩ (.slice none 0 0)) := ⟨_, rfl⟩
    have hBg := hX.2.lt
    have P4 := Lib.hid (show Blk Wp p 25 #[.int .i64 st, .int .i64 lo, .int .i64 pp, .int .i64 0, .int .i64 ai, .slice none 0 0, .slice none 0 0] by rw [hWp]; exact fill7 p3)
    have T4 := Lib.hid (show Tp Wp g B At nt ct l by rw [hWp]; repeat (with_reducible first | exact hX.2 | refine Tp.setNew (r := none) ?_ p1 (by omega) _))
    have O4 := Lib.hid (show Only g g w Wp by rw [hWp]; repeat (with_reducible first | exact (Only.of BW.out).trans (((Only.refl g g W).drew).trans hX.1) | refine Only.setNew ?_ (by omega) _))
    have R4 := Lib.hid (SR.out.keepO (show Only g g W Wp by rw [hWp]; repeat (with_reducible first | exact ((Only.refl g g W).drew).trans hX.1 | refine Only.setNew ?_ p2 _)) (by omega) (by omega))
    clear hF p3 hX
    simp only [scFr, h15, h14]
    go_simp
    rw [← hWp]
    clear hWp x0 x1 x2 x3 x4 x5 x6 f0 f1 f2 f3 f4 f5 f6 h15 h14
    go_wp2_with fail
    refine (Int_ok 5 Wp g B At nt ct l T4.out (by omega) (by omega)).mono ?_
    rintro e wa ⟨⟨k0, rfl, k1, k2⟩, ta, oa⟩
    have Ta := Lib.hid ta
    have Pa := Lib.hid (P4.out.keepO oa p1 p1)
    have Ra := Lib.hid (R4.out.keepO oa (by omega) (by omega))
    have Oa := Lib.hid (O4.out.trans oa)
    clear ta oa P4 R4 O4 T4
    obtain ⟨kk, rfl⟩ : ∃ kk : Nat, k0 = kk := ⟨k0.toNat, by omega⟩
    have e1 : IntKind.i64.wrap (1 + (kk : Int)) = 1 + (kk : Int) := IntWalk.i64_in _ (by omega)
    have e2 : IntKind.i64.wrap (1 + (kk : Int) + 1) = 1 + (kk : Int) + 1 := IntWalk.i64_in _ (by omega)
    obtain ⟨hh, hhe, hh0, hh1⟩ : ∃ hh : Int, (1 + (kk : Int) + 1).tdiv 2 = hh ∧ 1 ≤ hh ∧ hh ≤ 3 := ⟨_, rfl, by rw [Int.tdiv_eq_ediv_of_nonneg (by omega)]; omega, by rw [Int.tdiv_eq_ediv_of_nonneg (by omega)]; omega⟩
    have hhe2 : (1 + (kk : Int) + 1) / 2 = hh := by rw [← hhe, Int.tdiv_eq_ediv_of_nonneg (by omega)]
    have e3 : IntKind.i64.wrap hh = hh := IntWalk.i64_in _ (by omega)
    go_wp2_with fail
    refine (Int_ok hh wa g B At nt ct l Ta.out (by omega) (by omega)).mono ?_
    rintro e wb ⟨⟨li, rfl, li0, li1⟩, tb, ob⟩
    obtain ⟨Wc, hWc⟩ : ∃ Wc, Wc = wb.setCell ⟨p, 3, none⟩ (.int .i64 li) := ⟨_, rfl⟩
    have Pb := Pa.out.keepO ob p1 p1
    have hpb := Pb.lt
    have c3 : wb.cell? ⟨p, 3, none⟩ = some (.int .i64 0) := Pb.cell 3
    have f3 : wb.frozen? ⟨p, 3, none⟩ = false := Pb.frozen 3
    have Pc := Lib.hid (show Blk Wc p 25 #[.int .i64 st, .int .i64 lo, .int .i64 pp, .int .i64 li, .int .i64 ai, .slice none 0 0, .slice none 0 0] by rw [hWc]; exact Pb.set 3 _)
    have Tc := Lib.hid (show Tp Wc g B At nt ct l by rw [hWc]; exact tb.setNew (r := none) p1 (by omega) _)
    have Oc := Lib.hid (show Only g g w Wc by rw [hWc]; exact (Oa.out.trans ob).setNew (by omega) _)
    have Rc := Lib.hid (show Blk Wc w.heap.size 25 #[.int .i64 0, .int .i64 0, .int .i64 0, .int .i64 0, .int .i64 0, .slice none 0 0, .slice none 0 0] by rw [hWc]; exact (Ra.out.keepO ob (by omega) (by omega)).far (p := ⟨_, _, _⟩) (by show w.heap.size ≠ p; omega) _)
    clear Pb tb ob Pa Ta Oa Ra e1 e2 e3 hhe hhe2
    go_wp2_with fail
    rw [← hWc]
    clear hWc c3 f3 hpb
    have hpE := Pc.out.lt
    have hgE := Tc.out.size
    have hrE := Rc.out.lt
    go_loopg [9] (kk + 1) (fun gg s9 wr => ∃ (k : Nat) (errs : List Int) (A : Option Addr) (c : Nat), k ≤ kk + 1 ∧ kk + 1 - k ≤ gg ∧ s9 = .int .i64 k ∧ Hid (errs.length = k) ∧ Hid (∀ v ∈ errs, 0 ≤ v ∧ v ≤ 20) ∧ Hid (Tp wr g B At nt ct l) ∧ Hid (Blk wr p 25 #[.int .i64 st, .int .i64 lo, .int .i64 pp, .int .i64 li, .int .i64 ai, .slice A k c, .slice none 0 0]) ∧ Hid (wr.ownsRow Wc.heap.size 3 1 (.slice A k c) k (errs.flatMap encI)) ∧ Hid (Only g g w wr) ∧ Hid (Blk wr w.heap.size 25 #[.int .i64 0, .int .i64 0, .int .i64 0, .int .i64 0, .int .i64 0, .slice none 0 0, .slice none 0 0]) ∧ Hid (Wc.heap.size ≤ wr.heap.size))
    case atStart => exact ⟨0, [], none, 0, by omega, by omega, rfl, Lib.hid rfl, Lib.hid (by simp), Tc, Pc, Lib.hid (World.ownsRow_nil _ _ _ _), Oc, Rc, Lib.hid (Nat.le_refl _)⟩
    case round =>
      obtain ⟨k, errs, A, c, hk, hgg, rfl, hlen, hbd, Tr, Pr, Or1, Or2, Rr, Zr⟩ := hrel
      have hzE := Zr.out
      by_cases hlt : k < kk + 1
      · have t1 : decide ((k : Int) < 1 + (kk : Int)) = true := by simp; omega
        have hzp := Pr.out.lt
        have hzg := Tr.out.size
        obtain ⟨rb, hrb, hrb2, hrbz⟩ : ∃ rb, (∀ kb, (Value.slice A k c).ownBlock = some kb → kb = rb) ∧ (rb = g ∨ Wc.heap.size ≤ rb) ∧ rb < wr.heap.size := by
          cases hA : (Value.slice A k c).ownBlock with
          | none => exact ⟨g, fun kb h => (by cases h), .inl rfl, hzg⟩
          | some kb => exact ⟨kb, fun kb' h => (by cases h; rfl), .inr (Or1.out.lt kb hA).1, (Or1.out.lt kb hA).2⟩
        have hprb : p ≠ rb := by omega
        have hqrb : w.heap.size ≠ rb := by omega
        have hrbw : rb = g ∨ w.heap.size ≤ rb := by omega
        have hgrb : rb = g ∨ g < rb := by omega
        have hBg := Tr.out.lt
        go_wp2_with fail
        refine wp_region_facts (by kernel_rfl) (seFr g w.heap.size p kk k nmax ly (v 11) (v 12) (v 13) (v 14) (v 15) (v 16) (v 17) (v 18) (v 19) (v 20) (v 21) (v 22) (v 23) (v 24) (.agg #[.int .i64 st, .int .i64 lo, .int .i64 pp, .int .i64 0, .int .i64 ai, .slice none 0 0, .slice none 0 0]) (.pointer (some ⟨g, 0, none⟩)) (.int .i64 (kk : Int)) (.int .i64 (1 + (kk : Int))) (.pointer (some ⟨g, 0, none⟩)) (.int .i64 (1 + (kk : Int))) (.int .i64 (1 + (kk : Int) + 1)) (.int .i64 hh) (.int .i64 li) (.pointer (some ⟨p, 3, none⟩))) (fun j => match j with | 35 => .int .i64 (k : Int) | 36 => .int .i64 (1 + (kk : Int)) | 37 => .bool true | 38 => u38 | 39 => u39 | 40 => u40 | 41 => u41 | 42 => u42 | 43 => u43 | 44 => u44 | 45 => u45 | 46 => u46 | 47 => u47 | 48 => u48 | 49 => u49 | _ => undef) (by rfl) (seF g p wr.heap.size Wc.heap.size k c A errs) (fun L W1 => Only g rb wr.drew W1 ∧ Tp W1 g B At nt ct l ∧ (L.getD 8 true = false → W1.ownsRow Wc.heap.size 3 1 (.slice A k c) k (errs.flatMap encI))) (fun i W1 W2 => if i = 8 then Only g rb W1 W2 else Only g g W1 W2) 10 (by rfl) ?hgl (by kernel_rfl) (by kernel_rfl) (by kernel_rfl) ?hX0 (fun i j x w1 w2 hij h k => seF_keep hij h hzg hrbz hgE k) ?hdst ?hop ?hend
        case hX0 => exact ⟨Only.refl g rb wr.drew, Tr.out.below (below_drew (Below.refl _ _)), fun _ => own_drew Or1.out⟩
        case hgl => intro o ho; obtain rfl := Option.some.inj ho; rfl
        case hdst =>
          intro i o hi ho
          obtain rfl | rfl | rfl | rfl | rfl | rfl | rfl | rfl | rfl | rfl : i = 0 ∨ i = 1 ∨ i = 2 ∨ i = 3 ∨ i = 4 ∨ i = 5 ∨ i = 6 ∨ i = 7 ∨ i = 8 ∨ i = 9 := by omega
          all_goals
            obtain rfl := Option.some.inj ho
            exact ⟨_, rfl, rfl, fun _ _ => rfl⟩
        case hop =>
          intro i o L v W1 hi ho hu hX hd K hK
          obtain rfl | rfl | rfl | rfl | rfl | rfl | rfl | rfl | rfl | rfl : i = 0 ∨ i = 1 ∨ i = 2 ∨ i = 3 ∨ i = 4 ∨ i = 5 ∨ i = 6 ∨ i = 7 ∨ i = 8 ∨ i = 9 := by omega
          · obtain rfl := Option.some.inj ho
            simp only [seFr] at hK ⊢
            go_simp
            exact hK _ _ ⟨hX.1, hX.2.1, fun h => hX.2.2 (by rwa [getD_set_ne true (by decide)] at h)⟩ (by exact Only.refl g g _) rfl
          · obtain rfl := Option.some.inj ho
            have h0 : (v 40) = .pointer (some ⟨p, 5, none⟩) := hd ⟨0, .data⟩ (by simp) rfl _ 40 rfl rfl
            have c5 : W1.cell? ⟨p, 5, none⟩ = some (.slice A k c) := (Pr.out.drew.keepO hX.1 p1 hprb).cell 5
            simp only [seFr, h0] at hK ⊢
            go_simp
            exact hK _ _ ⟨hX.1, hX.2.1, fun h => hX.2.2 (by rwa [getD_set_ne true (by decide)] at h)⟩ (by exact Only.refl g g _) rfl
          · obtain rfl := Option.some.inj ho
            simp only [seFr] at hK ⊢
            go_simp
            have hzz : wr.heap.size ≤ W1.heap.size := hX.1.size
            exact hK _ _ ⟨hX.1.alloc _, hX.2.1.below (below_alloc (Below.refl _ _) _), fun h => (hX.2.2 (by rwa [getD_set_ne true (by decide)] at h)).alloc _⟩ ((Only.refl g g _).alloc _) ⟨W1.heap.size, rfl, hzz, Blk.new _ _ _⟩
          · obtain rfl := Option.some.inj ho
            simp only [seFr] at hK ⊢
            go_simp
            exact hK _ _ ⟨hX.1, hX.2.1, fun h => hX.2.2 (by rwa [getD_set_ne true (by decide)] at h)⟩ (by exact Only.refl g g _) rfl
          · obtain rfl := Option.some.inj ho
            have h3 : (v 43) = .pointer (some ⟨g, 0, none⟩) := hd ⟨3, .data⟩ (by simp) rfl _ 43 rfl rfl
            simp only [seFr, h3] at hK ⊢
            go_simp
            refine (Int_ok 3 W1 g B At nt ct l hX.2.1 (by omega) (by omega)).mono ?_
            rintro e w2 ⟨⟨r, rfl, r0, r1⟩, ht, ho⟩
            exact hK _ _ ⟨hX.1.trans ho.one, ht, fun h => own_only (hX.2.2 (by rwa [getD_set_ne true (by decide)] at h)) ho hgE hgE⟩ (by exact ho) ⟨r, rfl, r0, r1⟩
          · obtain rfl := Option.some.inj ho
            have h2 : ∃ b : Nat, (v 42) = .slice (some ⟨b, 0, none⟩) 3 3 ∧ wr.heap.size ≤ b ∧ Blk W1 b 3 #[.int .i64 0, .int .i64 3, .int .i64 20] := hd ⟨2, .data⟩ (by simp) rfl _ 42 rfl rfl
            have h4 : ∃ r : Int, (v 44) = .int .i64 r ∧ 0 ≤ r ∧ r < 3 := hd ⟨4, .data⟩ (by simp) rfl _ 44 rfl rfl
            obtain ⟨b, h2, hb1, hb2⟩ := h2
            obtain ⟨r, h4, r0, r1⟩ := h4
            obtain ⟨j, rfl⟩ : ∃ j : Nat, r = j := ⟨r.toNat, by omega⟩
            simp only [seFr, h2, h4] at hK ⊢
            go_simp
            exact hK _ _ ⟨hX.1, hX.2.1, fun h => hX.2.2 (by rwa [getD_set_ne true (by decide)] at h)⟩ (by exact Only.refl g g _) ⟨b, j, rfl, by omega, hb1, hb2⟩
          · obtain rfl := Option.some.inj ho
            have h5 : ∃ b j : Nat, (v 45) = .pointer (some ⟨b, j, none⟩) ∧ j < 3 ∧ wr.heap.size ≤ b ∧ Blk W1 b 3 #[.int .i64 0, .int .i64 3, .int .i64 20] := hd ⟨5, .data⟩ (by simp) rfl _ 45 rfl rfl
            obtain ⟨b, j, h5, hj, hb1, hb2⟩ := h5
            obtain rfl | rfl | rfl : j = 0 ∨ j = 1 ∨ j = 2 := by omega
            · have c0 : W1.cell? ⟨b, 0, none⟩ = some (.int .i64 0) := hb2.cell 0
              simp only [seFr, h5] at hK ⊢
              go_simp
              exact hK _ _ ⟨hX.1, hX.2.1, fun h => hX.2.2 (by rwa [getD_set_ne true (by decide)] at h)⟩ (by exact Only.refl g g _) ⟨0, rfl, by omega, by omega⟩
            · have c0 : W1.cell? ⟨b, 1, none⟩ = some (.int .i64 3) := hb2.cell 1
              simp only [seFr, h5] at hK ⊢
              go_simp
              exact hK _ _ ⟨hX.1, hX.2.1, fun h => hX.2.2 (by rwa [getD_set_ne true (by decide)] at h)⟩ (by exact Only.refl g g _) ⟨3, rfl, by omega, by omega⟩
            · have c0 : W1.cell? ⟨b, 2, none⟩ = some (.int .i64 20) := hb2.cell 2
              simp only [seFr, h5] at hK ⊢
              go_simp
              exact hK _ _ ⟨hX.1, hX.2.1, fun h => hX.2.2 (by rwa [getD_set_ne true (by decide)] at h)⟩ (by exact Only.refl g g _) ⟨20, rfl, by omega, by omega⟩
          · obtain rfl := Option.some.inj ho
            have h6 : ∃ d : Int, (v 46) = .int .i64 d ∧ 0 ≤ d ∧ d ≤ 20 := hd ⟨6, .data⟩ (by simp) rfl _ 46 rfl rfl
            obtain ⟨d, h6, d0, d9⟩ := h6
            simp only [seFr, h6] at hK ⊢
            go_simp
            have hzz : wr.heap.size ≤ W1.heap.size := hX.1.size
            exact hK _ _ ⟨hX.1.alloc _, hX.2.1.below (below_alloc (Below.refl _ _) _), fun h => (hX.2.2 (by rwa [getD_set_ne true (by decide)] at h)).alloc _⟩ ((Only.refl g g _).alloc _) ⟨W1.heap.size, d, rfl, d0, d9, hzz, Blk.new _ _ _⟩
          · obtain rfl := Option.some.inj ho
            have h1 : (v 41) = .slice A k c := hd ⟨1, .data⟩ (by simp) rfl _ 41 rfl rfl
            have h7 : ∃ (b : Nat) (d : Int), (v 47) = .slice (some ⟨b, 0, none⟩) 1 1 ∧ 0 ≤ d ∧ d ≤ 20 ∧ wr.heap.size ≤ b ∧ Blk W1 b 3 #[.int .i64 d] := hd ⟨7, .data⟩ (by simp) rfl _ 47 rfl rfl
            obtain ⟨b, d, h7, d0, d9, hb1, hb2⟩ := h7
            have hown := hX.2.2 hu
            simp only [seFr, h1, h7] at hK ⊢
            have hsz : (k + 1) * 8 ≤ 140737488355328 := by omega
            refine wp_append_any (.tmp 41) (.tmp 47) 22 rfl Wc.heap.size 3 i0 _ 1 8 Tryz.underlying22 hi0 hz0 hz1 hz2 rfl (by decide) (.slice A k c) k (errs.flatMap encI) rfl hown (some ⟨b, 0, none⟩) 1 1 [.int .i64 d] rfl rfl (fun _ => ⟨_, rfl, World.news_of_block (cs := #[.int .i64 d]) (t := 3) (fr := (0, 0)) hb2⟩) (by simp [Value.oneCell']) (by unfold maxLen; omega) hsz (by have := hX.1.size; have : wr.drew.heap.size = wr.heap.size := rfl; omega) (fun v' w' hown' hgr => ?_)
            obtain ⟨A2, c2, rfl⟩ := own_slice hown'
            have og : Only g rb W1 w' := grown_only hgr (fun kb hkb => .inr (hrb kb hkb))
            refine hK _ _ ⟨hX.1.trans og, (hX.2.1.grown hgr (fun kb hkb => by have := (Or1.out.lt kb hkb).1; omega)), fun h => ?_⟩ (by exact og) ⟨d, A2, c2, rfl, d0, d9, by rw [List.flatMap_append]; exact hown'⟩
            rw [getD_done] at h
            cases h
          · obtain rfl := Option.some.inj ho
            simp only [seFr] at hK ⊢
            go_simp
            exact hK _ _ ⟨hX.1, hX.2.1, fun h => hX.2.2 (by rwa [getD_set_ne true (by decide)] at h)⟩ (by exact Only.refl g g _) rfl
        case hend =>
          intro o L v W1 ho hX hF
          obtain rfl := Option.some.inj ho
          have h49 : (v 49) = .pointer (some ⟨p, 5, none⟩) := hF 9 _ 49 (by omega) rfl rfl
          have h48 : ∃ (d : Int) (A2 : Option Addr) (c2 : Nat), (v 48) = .slice A2 (k + 1) c2 ∧ 0 ≤ d ∧ d ≤ 20 ∧ W1.ownsRow Wc.heap.size 3 1 (v 48) (k + 1) ((errs ++ [d]).flatMap encI) := hF 8 _ 48 (by omega) rfl rfl
          obtain ⟨d, A2, c2, h48, d0, d9, hown8⟩ := h48
          have P1 := Pr.out.drew.keepO hX.1 p1 hprb
          have c5 : W1.cell? ⟨p, 5, none⟩ = some (.slice A k c) := P1.cell 5
          have f5 : W1.frozen? ⟨p, 5, none⟩ = false := P1.frozen 5
          have hpl := P1.lt
          rw [h48] at hown8
          obtain ⟨Wn, hWn⟩ : ∃ Wn, Wn = W1.setCell ⟨p, 5, none⟩ (.slice A2 (k + 1) c2) := ⟨_, rfl⟩
          have Pn := Lib.hid (show Blk Wn p 25 #[.int .i64 st, .int .i64 lo, .int .i64 pp, .int .i64 li, .int .i64 ai, .slice A2 (k + 1) c2, .slice none 0 0] by rw [hWn]; exact P1.set 5 _)
          have Tn := Lib.hid (show Tp Wn g B At nt ct l by rw [hWn]; exact hX.2.1.setNew (r := none) p1 (by omega) _)
          have On := Lib.hid (show Wn.ownsRow Wc.heap.size 3 1 (.slice A2 (k + 1) c2) (k + 1) ((errs ++ [d]).flatMap encI) by rw [hWn]; exact own_only hown8 ((Only.refl p p _).set (.inl rfl) _) hpE hpE)
          have Wn2 := Lib.hid (show Only g g w Wn by rw [hWn]; exact (only_new (Or2.out.trans (Only.refl g g wr).drew) hX.1 hrbw).setNew (by omega) _)
          have Rn := Lib.hid (show Blk Wn w.heap.size 25 #[.int .i64 0, .int .i64 0, .int .i64 0, .int .i64 0, .int .i64 0, .slice none 0 0, .slice none 0 0] by rw [hWn]; exact (Rr.out.drew.keepO hX.1 (by omega) hqrb).far (p := ⟨_, _, _⟩) (by show w.heap.size ≠ p; omega) _)
          have Zn := Lib.hid (show Wc.heap.size ≤ Wn.heap.size by rw [hWn]; have := hX.1.size; have : wr.drew.heap.size = wr.heap.size := rfl; simp [World.setCell]; omega)
          have hl3 := Lib.hid (show (errs ++ [d]).length = k + 1 by rw [List.length_append, hlen.out]; rfl)
          have hb3 := Lib.hid (show ∀ v ∈ errs ++ [d], 0 ≤ v ∧ v ≤ 20 from fun v hv => by
            rcases List.mem_append.1 hv with hv | hv
            · exact hbd.out v hv
            · simp at hv; subst hv; exact ⟨d0, d9⟩)
          clear hF hX P1 hown8
          simp only [seFr, h49, h48]
          go_simp
          rw [← hWn]
          clear hWn c5 f5
          go_wp2
          go_roundg (kk + 1 - (k + 1))
          case rel => exact ⟨k + 1, errs ++ [d], A2, c2, by omega, Nat.le_refl _, by go_num, hl3, hb3, Tn, Pn, On, Wn2, Rn, Zn⟩
          case measure => omega
      · have t1 : decide ((k : Int) < 1 + (kk : Int)) = false := by simp; omega
        clear ho
        go_wp2_with fail
        refine (Int_ok nmax wr g B At nt ct l Tr.out (by omega) (by omega)).mono ?_
        rintro e wd ⟨⟨m0, rfl, m00, m01⟩, td, od⟩
        obtain ⟨mm, rfl⟩ : ∃ mm : Nat, m0 = mm := ⟨m0.toNat, by omega⟩
        have e1 : IntKind.i64.wrap (1 + (mm : Int)) = 1 + (mm : Int) := IntWalk.i64_in _ (by omega)
        have p6 := Pr.out
        have hpw := Pr.out.lt
        have hgw := Tr.out.size
        have hqw := Rr.out.lt
        have Td := Lib.hid td
        have Pd := Lib.hid (p6.keepO od p1 p1)
        have Rd := Lib.hid (Rr.out.keepO od (by omega) (by omega))
        have Od := Lib.hid (Or2.out.trans od)
        have Ed := Lib.hid (own_only Or1.out od hgE hgE)
        obtain rfl := hlen.out
        have Kd := Lib.hid (show ∀ kb, (Value.slice A errs.length c).ownBlock = some kb → kb < wd.heap.size from fun kb h => (Ed.out.lt kb h).2)
        have hpd : p < wd.heap.size := Nat.lt_of_lt_of_le hpw od.size
        have hgd : g < wd.heap.size := Nat.lt_of_lt_of_le hgw od.size
        have hqd : w.heap.size < wd.heap.size := Nat.lt_of_lt_of_le hqw od.size
        have hEd : Wc.heap.size ≤ wd.heap.size := Nat.le_trans hzE od.size
        have ek0 : 1 ≤ errs.length := by omega
        have ek1 : errs.length ≤ 5 := by omega
        clear p6 td od Tr Pr Or1 Or2 Rr hpw hgw hqw hzE
        go_wp2_with fail
        go_loopg [10] (mm + 1) (fun gg s10 wr => ∃ (steps : List Stp) (A2 : Option Addr) (c2 : Nat) (j : Nat), steps.length + j = mm + 1 ∧ j ≤ gg ∧ s10 = .int .i64 (j : Int) ∧ True ∧ Hid (Tp wr g B At nt ct l) ∧ Hid (Blk wr p 25 #[.int .i64 st, .int .i64 lo, .int .i64 pp, .int .i64 li, .int .i64 ai, .slice A errs.length c, .slice A2 steps.length c2]) ∧ Hid (wr.ownsRow Wc.heap.size 3 1 (.slice A errs.length c) errs.length (errs.flatMap encI)) ∧ Hid (wr.ownsRow wd.heap.size 45 11 (.slice A2 steps.length c2) steps.length (steps.flatMap encStp)) ∧ Hid (Only g g w wr) ∧ Hid (Blk wr w.heap.size 25 #[.int .i64 0, .int .i64 0, .int .i64 0, .int .i64 0, .int .i64 0, .slice none 0 0, .slice none 0 0]) ∧ Hid (wd.heap.size ≤ wr.heap.size))
        case atStart => exact ⟨[], none, 0, mm + 1, by simp, Nat.le_refl _, by go_num, trivial, Td, Pd, Ed, Lib.hid (World.ownsRow_nil _ _ _ _), Od, Rd, Lib.hid (Nat.le_refl _)⟩
        case round =>
          obtain ⟨steps, A2, c2, j, hj, hgg2, rfl, -, Tr, Pr, Er, Or1, Or2, Rr, Zr⟩ := hrel
          have hzd := Zr.out
          have hzp := Pr.out.lt
          have hzg := Tr.out.size
          by_cases hlt2 : 0 < j
          · have t2 : decide ((0 : Int) < (j : Int)) = true := by simp; omega
            obtain ⟨rb, hrb, hrb2, hrbz⟩ : ∃ rb, (∀ kb, (Value.slice A2 steps.length c2).ownBlock = some kb → kb = rb) ∧ (rb = g ∨ wd.heap.size ≤ rb) ∧ rb < wr.heap.size := by
              cases hA : (Value.slice A2 steps.length c2).ownBlock with
              | none => exact ⟨g, fun kb h => (by cases h), .inl rfl, hzg⟩
              | some kb => exact ⟨kb, fun kb' h => (by cases h; rfl), .inr (Or1.out.lt kb hA).1, (Or1.out.lt kb hA).2⟩
            have hfar : ∀ kb, (Value.slice A errs.length c).ownBlock = some kb → kb ≠ rb := fun kb hkb => by
              have h1 := Kd.out kb hkb
              have h2 := (Ed.out.lt kb hkb).1
              omega
            have hprb : p ≠ rb := by omega
            have hqrb : w.heap.size ≠ rb := by omega
            have hrbw : rb = g ∨ w.heap.size ≤ rb := by omega
            have hgrb : rb = g ∨ g < rb := by omega
            have hBg := Tr.out.lt
            go_wp2_with fail
            refine wp_region_facts (by kernel_rfl) (ssFr g w.heap.size p kk errs.length j nmax ly (v 11) (v 12) (v 13) (v 14) (v 15) (v 16) (v 17) (v 18) (v 19) (v 20) (v 21) (v 22) (v 23) (v 24) (.agg #[.int .i64 st, .int .i64 lo, .int .i64 pp, .int .i64 0, .int .i64 ai, .slice none 0 0, .slice none 0 0]) (.pointer (some ⟨g, 0, none⟩)) (.int .i64 (kk : Int)) (.int .i64 (1 + (kk : Int))) (.pointer (some ⟨g, 0, none⟩)) (.int .i64 (1 + (kk : Int))) (.int .i64 (1 + (kk : Int) + 1)) (.int .i64 hh) (.int .i64 li) (.pointer (some ⟨p, 3, none⟩)) (.int .i64 (errs.length : Int)) (.int .i64 (1 + (kk : Int))) (.bool false) u38 u39 u40 u41 u42 u43 u44 u45 u46 u47 u48 u49 (.pointer (some ⟨g, 0, none⟩)) (.int .i64 nmax) (.int .i64 (mm : Int)) (.int .i64 (1 + (mm : Int)))) (fun i => match i with | 54 => .int .i64 (j : Int) | 55 => .bool true | 56 => u56 | 57 => u57 | 58 => u58 | 59 => u59 | 60 => u60 | 61 => u61 | 62 => u62 | 63 => u63 | 64 => u64 | 65 => u65 | 66 => u66 | _ => undef) (by rfl) (ssF g p wr.heap.size wd.heap.size ly A A2 c c2 st lo pp li ai errs steps) (fun L W1 => Only g rb wr.drew W1 ∧ Tp W1 g B At nt ct l ∧ W1.ownsRow Wc.heap.size 3 1 (.slice A errs.length c) errs.length (errs.flatMap encI) ∧ (L.getD 7 true = false → W1.ownsRow wd.heap.size 45 11 (.slice A2 steps.length c2) steps.length (steps.flatMap encStp))) (fun i W1 W2 => if i = 7 then Only g rb W1 W2 else Only g g W1 W2) 9 (by rfl) ?hgl (by kernel_rfl) (by kernel_rfl) (by kernel_rfl) ?hX0 (fun i j x w1 w2 hij h k => ssF_keep hij h hzg hrbz hgd k) ?hdst ?hop ?hend
            case hX0 => exact ⟨Only.refl g rb wr.drew, Tr.out.below (below_drew (Below.refl _ _)), own_drew Er.out, fun _ => own_drew Or1.out⟩
            case hgl => intro o ho; obtain rfl := Option.some.inj ho; rfl
            case hdst =>
              intro i o hi ho
              obtain rfl | rfl | rfl | rfl | rfl | rfl | rfl | rfl | rfl : i = 0 ∨ i = 1 ∨ i = 2 ∨ i = 3 ∨ i = 4 ∨ i = 5 ∨ i = 6 ∨ i = 7 ∨ i = 8 := by omega
              all_goals
                obtain rfl := Option.some.inj ho
                exact ⟨_, rfl, rfl, fun _ _ => rfl⟩
            case hop =>
              intro i o L v W1 hi ho hu hX hd K hK
              obtain rfl | rfl | rfl | rfl | rfl | rfl | rfl | rfl | rfl : i = 0 ∨ i = 1 ∨ i = 2 ∨ i = 3 ∨ i = 4 ∨ i = 5 ∨ i = 6 ∨ i = 7 ∨ i = 8 := by omega
              · obtain rfl := Option.some.inj ho
                simp only [ssFr] at hK ⊢
                go_simp
                exact hK _ _ ⟨hX.1, hX.2.1, hX.2.2.1, fun h => hX.2.2.2 (by rwa [getD_set_ne true (by decide)] at h)⟩ (by exact Only.refl g g _) rfl
              · obtain rfl := Option.some.inj ho
                have h0 : (v 58) = .pointer (some ⟨p, 6, none⟩) := hd ⟨0, .data⟩ (by simp) rfl _ 58 rfl rfl
                have P1 := Pr.out.drew.keepO hX.1 p1 hprb
                have c6 : W1.cell? ⟨p, 6, none⟩ = some (.slice A2 steps.length c2) := P1.cell 6
                simp only [ssFr, h0] at hK ⊢
                go_simp
                exact hK _ _ ⟨hX.1, hX.2.1, hX.2.2.1, fun h => hX.2.2.2 (by rwa [getD_set_ne true (by decide)] at h)⟩ (by exact Only.refl g g _) rfl
              · obtain rfl := Option.some.inj ho
                simp only [ssFr] at hK ⊢
                go_simp
                exact hK _ _ ⟨hX.1, hX.2.1, hX.2.2.1, fun h => hX.2.2.2 (by rwa [getD_set_ne true (by decide)] at h)⟩ (by exact Only.refl g g _) rfl
              · obtain rfl := Option.some.inj ho
                have P1 := Pr.out.drew.keepO hX.1 p1 hprb
                obtain ⟨x0, x1, x2, x3, x4, x5, x6⟩ := blk7 P1
                simp only [ssFr] at hK ⊢
                go_simp
                exact hK _ _ ⟨hX.1, hX.2.1, hX.2.2.1, fun h => hX.2.2.2 (by rwa [getD_set_ne true (by decide)] at h)⟩ (by exact Only.refl g g _) rfl
              · obtain rfl := Option.some.inj ho
                simp only [ssFr] at hK ⊢
                go_simp
                exact hK _ _ ⟨hX.1, hX.2.1, hX.2.2.1, fun h => hX.2.2.2 (by rwa [getD_set_ne true (by decide)] at h)⟩ (by exact Only.refl g g _) rfl
              · obtain rfl := Option.some.inj ho
                have h2 : (v 60) = .pointer (some ⟨g, 0, none⟩) := hd ⟨2, .data⟩ (by simp) rfl _ 60 rfl rfl
                have h3 : (v 61) = .agg #[.int .i64 st, .int .i64 lo, .int .i64 pp, .int .i64 li, .int .i64 ai, .slice A errs.length c, .slice A2 steps.length c2] := hd ⟨3, .data⟩ (by simp) rfl _ 61 rfl rfl
                have h4 : (v 62) = .bool ly := hd ⟨4, .data⟩ (by simp) rfl _ 62 rfl rfl
                simp only [ssFr, h2, h3, h4] at hK ⊢
                go_simp
                refine (cstep_ok ⟨st, lo, pp, li, ai, errs, steps⟩ A A2 errs.length c c2 ly W1 g B Wc.heap.size At nt ct l hX.2.1 rfl ek0 (by omega) hX.2.2.1 hgE hbd.out pp0 pp1).mono ?_
                rintro e w2 ⟨⟨y, rfl⟩, ht, ho⟩
                exact hK _ _ ⟨hX.1.trans ho.one, ht, own_only hX.2.2.1 ho hgE hgE, fun h => own_only (hX.2.2.2 (by rwa [getD_set_ne true (by decide)] at h)) ho hgd hgd⟩ (by exact ho) ⟨y, rfl⟩
              · obtain rfl := Option.some.inj ho
                have h5 : ∃ y : Stp, (v 63) = vStp y := hd ⟨5, .data⟩ (by simp) rfl _ 63 rfl rfl
                obtain ⟨y, h5⟩ := h5
                simp only [ssFr, h5] at hK ⊢
                go_simp
                have hzz : wr.heap.size ≤ W1.heap.size := hX.1.size
                refine hK _ _ ⟨hX.1.alloc _, hX.2.1.below (below_alloc (Below.refl _ _) _), hX.2.2.1.alloc _, fun h => (hX.2.2.2 (by rwa [getD_set_ne true (by decide)] at h)).alloc _⟩ ((Only.refl g g _).alloc _) ⟨W1.heap.size, y, rfl, hzz, Blk.new _ _ _⟩
              · obtain rfl := Option.some.inj ho
                have h1 : (v 59) = .slice A2 steps.length c2 := hd ⟨1, .data⟩ (by simp) rfl _ 59 rfl rfl
                have h6 : ∃ (b : Nat) (y : Stp), (v 64) = .slice (some ⟨b, 0, none⟩) 1 1 ∧ wr.heap.size ≤ b ∧ Blk W1 b 45 #[.int .i64 y.src, .int .i64 y.tru, .int .i64 y.loc, .int .i64 y.out, .int .i64 y.outL, .int .i64 y.hold, .int .i64 y.holdL, .int .i64 y.back, .int .i64 y.backL, .int .i64 y.w2, .int .i64 y.w3] := hd ⟨6, .data⟩ (by simp) rfl _ 64 rfl rfl
                obtain ⟨b, y, h6, hb1, hb2⟩ := h6
                have hown := hX.2.2.2 hu
                simp only [ssFr, h1, h6] at hK ⊢
                have hsz : (steps.length + 1) * 88 ≤ 140737488355328 := by omega
                refine wp_append_any (.tmp 59) (.tmp 64) 23 rfl wd.heap.size 45 j0 _ 11 88 Tryz.underlying23 hj0 hw0 hw1 hw2 rfl (by decide) (.slice A2 steps.length c2) steps.length (steps.flatMap encStp) rfl hown (some ⟨b, 0, none⟩) 1 1 (encStp y) rfl rfl (fun _ => ⟨_, rfl, World.news_of_block (cs := #[.int .i64 y.src, .int .i64 y.tru, .int .i64 y.loc, .int .i64 y.out, .int .i64 y.outL, .int .i64 y.hold, .int .i64 y.holdL, .int .i64 y.back, .int .i64 y.backL, .int .i64 y.w2, .int .i64 y.w3]) (t := 45) (fr := (0, 0)) hb2⟩) (by simp [encStp, Value.oneCell']) (by unfold maxLen; omega) hsz (by have := hX.1.size; have : wr.drew.heap.size = wr.heap.size := rfl; omega) (fun v' w' hown' hgr => ?_)
                obtain ⟨A3, c3, rfl⟩ := own_slice hown'
                have og : Only g rb W1 w' := grown_only hgr (fun kb hkb => .inr (hrb kb hkb))
                refine hK _ _ ⟨hX.1.trans og, (hX.2.1.grown hgr (fun kb hkb => by have := (Or1.out.lt kb hkb).1; omega)), own_farO hX.2.2.1 og hgE hfar, fun h => ?_⟩ (by exact og) ⟨y, A3, c3, rfl, by rw [List.flatMap_append]; exact hown'⟩
                rw [getD_done] at h
                cases h
              · obtain rfl := Option.some.inj ho
                simp only [ssFr] at hK ⊢
                go_simp
                exact hK _ _ ⟨hX.1, hX.2.1, hX.2.2.1, fun h => hX.2.2.2 (by rwa [getD_set_ne true (by decide)] at h)⟩ (by exact Only.refl g g _) rfl
            case hend =>
              intro o L v W1 ho hX hF
              obtain rfl := Option.some.inj ho
              have h66 : (v 66) = .pointer (some ⟨p, 6, none⟩) := hF 8 _ 66 (by omega) rfl rfl
              have h65 : ∃ (y : Stp) (A3 : Option Addr) (c3 : Nat), (v 65) = .slice A3 (steps.length + 1) c3 ∧ W1.ownsRow wd.heap.size 45 11 (v 65) (steps.length + 1) ((steps ++ [y]).flatMap encStp) := hF 7 _ 65 (by omega) rfl rfl
              obtain ⟨y, A3, c3, h65, hown8⟩ := h65
              have P1 := Pr.out.drew.keepO hX.1 p1 hprb
              have c6 : W1.cell? ⟨p, 6, none⟩ = some (.slice A2 steps.length c2) := P1.cell 6
              have f6 : W1.frozen? ⟨p, 6, none⟩ = false := P1.frozen 6
              have hpl := P1.lt
              rw [h65] at hown8
              obtain ⟨Wn, hWn⟩ : ∃ Wn, Wn = W1.setCell ⟨p, 6, none⟩ (.slice A3 (steps.length + 1) c3) := ⟨_, rfl⟩
              have Pn := Lib.hid (show Blk Wn p 25 #[.int .i64 st, .int .i64 lo, .int .i64 pp, .int .i64 li, .int .i64 ai, .slice A errs.length c, .slice A3 (steps.length + 1) c3] by rw [hWn]; exact P1.set 6 _)
              have Tn := Lib.hid (show Tp Wn g B At nt ct l by rw [hWn]; exact hX.2.1.setNew (r := none) p1 (by omega) _)
              have En := Lib.hid (show Wn.ownsRow Wc.heap.size 3 1 (.slice A errs.length c) errs.length (errs.flatMap encI) by rw [hWn]; exact own_only hX.2.2.1 ((Only.refl p p _).set (.inl rfl) _) hpE hpE)
              have On := Lib.hid (show Wn.ownsRow wd.heap.size 45 11 (.slice A3 (steps.length + 1) c3) (steps.length + 1) ((steps ++ [y]).flatMap encStp) by rw [hWn]; exact own_only hown8 ((Only.refl p p _).set (.inl rfl) _) hpd hpd)
              have Wn2 := Lib.hid (show Only g g w Wn by rw [hWn]; exact (only_new (Or2.out.trans (Only.refl g g wr).drew) hX.1 hrbw).setNew (by omega) _)
              have Rn := Lib.hid (show Blk Wn w.heap.size 25 #[.int .i64 0, .int .i64 0, .int .i64 0, .int .i64 0, .int .i64 0, .slice none 0 0, .slice none 0 0] by rw [hWn]; exact (Rr.out.drew.keepO hX.1 (by omega) hqrb).far (p := ⟨_, _, _⟩) (by show w.heap.size ≠ p; omega) _)
              have Zn := Lib.hid (show wd.heap.size ≤ Wn.heap.size by rw [hWn]; have := hX.1.size; have : wr.drew.heap.size = wr.heap.size := rfl; simp [World.setCell]; omega)
              have hl3 := (show (steps ++ [y]).length = steps.length + 1 by rw [List.length_append]; rfl)
              have e5 : IntKind.i64.wrap ((j : Int) - 1) = (j : Int) - 1 := IntWalk.i64_in _ (by omega)
              clear hF hX P1 hown8 ho
              simp only [ssFr, h66, h65]
              go_simp
              rw [← hWn]
              clear hWn c6 f6
              go_wp2
              go_roundg (j - 1)
              case rel => exact ⟨steps ++ [y], A3, c3, j - 1, by rw [hl3]; omega, Nat.le_refl _, by go_num, trivial, Tn, by rw [hl3]; exact Pn, En, by rw [hl3]; exact On, Wn2, Rn, Zn⟩
              case measure => omega
          · have t2 : decide ((0 : Int) < (j : Int)) = false := by simp; omega
            obtain ⟨x0, x1, x2, x3, x4, x5, x6⟩ := blk7 Pr.out
            have hq := Rr.out.lt
            have y0 := Rr.out.frozen 0
            have y1 := Rr.out.frozen 1
            have y2 := Rr.out.frozen 2
            have y3 := Rr.out.frozen 3
            have y4 := Rr.out.frozen 4
            have y5 := Rr.out.frozen 5
            have y6 := Rr.out.frozen 6
            obtain ⟨r0, r1, r2, r3, r4, r5, r6⟩ := blk7 Rr.out
            have FIN := Lib.hid (show ∀ W', Only w.heap.size w.heap.size wr W' → SchedPost g w (.returned (vSch ⟨st, lo, pp, li, ai, errs, steps⟩ A c A2 c2)) W' from fun W' hO => ⟨⟨st, lo, pp, li, ai, errs, steps⟩, A, c, A2, c2, rfl, ek0, ek1, (show 1 ≤ steps.length by omega), (show steps.length ≤ 16 by omega), RdL.of_own' (enc := encI) (k := 1) (fun _ => rfl) (own_only Er.out hO hrE hrE) rfl (show errs.length ≤ 4611686018427387904 by omega), RdL.of_own' (enc := encStp) (k := 11) (fun _ => rfl) (own_only Or1.out hO hqd hqd) rfl (show steps.length ≤ 4611686018427387904 by omega), only_new Or2.out hO.one.swap (.inr (Nat.le_refl _)), (by have := hO.size; omega), Wc.heap.size, wd.heap.size, own_only Er.out hO hrE hrE, own_only Or1.out hO hqd hqd, Kd.out, Nat.le_of_lt hrE, Nat.le_of_lt hqd⟩)
            clear ek0 ek1
            go_wp2
            exact bodyPost_ret (v := .agg #[.int .i64 st, .int .i64 lo, .int .i64 pp, .int .i64 li, .int .i64 ai, .slice A errs.length c, .slice A2 steps.length c2]) (by rw [results_cell Tryz.results8]; go_simp) rfl (FIN.out _ (by repeat (with_reducible first | exact Only.refl _ _ _ | refine Only.set ?_ (.inl rfl) _)))
end Go.Proofs.YtnafhblioabkgaaGreat
/- The statements' maker of schedules: a new tape. -/
namespace Go.Proofs.YtnafhblioabkgaaGreat
open Go.RowKit

set_option maxHeartbeats 2000000 in
set_option maxRecDepth 100000 in
theorem New_ok (A : Option Addr) (n c : Nat) (l : List Int) (w : World) (h : RdL encI 1 w w.heap.size A n l) :
    Calls Tryz.prog 7 #[.slice A n c] w fun e w' => e = .returned (.pointer (some ⟨w.heap.size, 0, none⟩)) ∧ Tp w' w.heap.size w.heap.size A n c l ∧ Below w.heap.size w w' ∧ w'.heap.size = w.heap.size + 1 := by
  obtain ⟨W, hW⟩ : ∃ W, W = w.alloc (.cells #[.slice A n c, .int .i64 0] 57) := ⟨_, rfl⟩
  have FIN := Lib.hid (show Tp W w.heap.size w.heap.size A n c l ∧ Below w.heap.size w W ∧ W.heap.size = w.heap.size + 1 by
    rw [hW]
    exact ⟨⟨⟨0, Nat.zero_le _, Blk.new _ _ _⟩, h.alloc (Nat.le_refl _) _, Nat.le_refl _⟩, below_alloc (Below.refl _ _) _, by simp⟩)
  go_enter Tryz.func7, Tryz.ntmps7
  go_wp2
  rw [← hW]
  go_ret
  exact ⟨rfl, FIN.out⟩
/-- A schedule that the statements look at: its lists can be read, and are short. -/
structure SchIn (w : World) (B : Nat) (s : Sch) (A A' : Option Addr) : Prop where
  n : s.errs.length ≤ 20
  m : s.steps.length ≤ 65
  e : RdL encI 1 w B A s.errs.length s.errs
  t : RdL encStp 11 w B A' s.steps.length s.steps
theorem SchIn.below {w w' : World} {B C : Nat} {s : Sch} {A A' : Option Addr} (h : SchIn w B s A A') (hb : Below C w w') (hB : B ≤ C) : SchIn w' B s A A' :=
  ⟨h.n, h.m, h.e.keep fun b o hj => hb.cell (p := ⟨b, o, none⟩) (Nat.lt_of_lt_of_le hj hB), h.t.keep fun b o hj => hb.cell (p := ⟨b, o, none⟩) (Nat.lt_of_lt_of_le hj hB)⟩
end Go.Proofs.YtnafhblioabkgaaGreat
