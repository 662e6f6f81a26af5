/- simulate.Lies: the sources that lie. -/
import Derived.Test.YtnafhblioabkgaaGreatSimc
import Derived.Test.YtnafhblioabkgaaGreatOk
import Derived.Test.YtnafhblioabkgaaGreatMerge
namespace Go.Proofs.YtnafhblioabkgaaGreat
open Go.RowKit

theorem infoI : (Tryz.prog.info? 3).map (fun i => (i.zero, i.size, i.bytes)) = some (some (.int .i64 0), 1, 8) := by kernel_rfl
@[go_sem high] theorem run_max_int4 {P : Program} (w : World) (ts : Array TypeId) (t : TypeId) (k k1 k2 k3 : IntKind) (x y z u : Int) :
    (Builtin.max_ ts t #[.int k x, .int k1 y, .int k2 z, .int k3 u]).run P w = .ok (.int k (max (max (max x y) z) u)) w := by
  have e : ∀ p q : Int, (if q > p then q else p) = max p q := fun p q => by split <;> omega
  simp [Builtin.max_, Builtin.max2, e]
theorem max4 (a a' b b' e : Int) : decide (max (max (max a a') b) b' > e) = (decide (e < max a a') || decide (e < max b b')) := by
  rw [Bool.eq_iff_iff]
  simp only [Bool.or_eq_true, decide_eq_true_eq]
  omega
/-- The same for numbers of whatever size: what a negation answers is wrapped. -/
def lieW (i e : Int) (x : Stp) : Bool := decide (x.src = i) && (decide (e < max x.w2 (IntKind.i64.wrap (-x.w2))) || decide (e < max x.w3 (IntKind.i64.wrap (-x.w3))))
theorem lieW_any (i e : Int) (n : Nat) (p : Int) (l : List Stp) (h : ∀ x ∈ l, x.ok n p) : l.any (lieW i e) = l.any (lieP i e) := by
  induction l with
  | nil => rfl
  | cons x r ih =>
    have hx := h x (by simp)
    rw [List.any_cons, List.any_cons, ih fun y hy => h y (by simp [hy])]
    have := hx.w2
    have := hx.w3
    unfold lieW lieP
    rw [IntWalk.i64_in (-x.w2) (by omega), IntWalk.i64_in (-x.w3) (by omega)]

theorem Lies1 (x : Stp) (i e : Int) (bi be : Nat) (w : World) (h1 : w.cell? ⟨bi, 0, none⟩ = some (.int .i64 i)) (h2 : w.cell? ⟨be, 0, none⟩ = some (.int .i64 e)) :
    Calls Tryz.prog 30 #[vStp x, .pointer (some ⟨bi, 0, none⟩), .pointer (some ⟨be, 0, none⟩)] w fun r w' => r = .returned (.bool (lieW i e x)) ∧ Below w.heap.size w w' := by
  have k1 := World.block_lt_of_cell? w _ h1
  have k2 := World.block_lt_of_cell? w _ h2
  obtain ⟨src, tru, loc, out, outL, hold, holdL, back, backL, w2, w3⟩ := x
  unfold lieW
  dsimp only [vStp] at *
  generalize hw2 : IntKind.i64.wrap (-w2) = v2 at *
  generalize hw3 : IntKind.i64.wrap (-w3) = v3 at *
  have m := max4 w2 v2 w3 v3 e
  generalize (decide (e < max w2 v2) || decide (e < max w3 v3)) = q at *
  by_cases h : src = i
  · subst h
    have t : (src == src) = true := by simp
    rw [decide_eq_true rfl, Bool.true_and]
    go_enter Tryz.func30, Tryz.ntmps30
    go_wp2
    go_ret
    exact ⟨ret_bool (by rw [← m, Bool.eq_iff_iff]; simp only [decide_eq_true_eq]; omega), below_alloc (Below.refl _ _) _⟩
  · have t : (src == i) = false := by simp [h]
    rw [decide_eq_false h, Bool.false_and]
    clear m hw2 hw3
    go_enter Tryz.func30, Tryz.ntmps30
    go_wp2
    go_ret
    exact ⟨rfl, below_alloc (Below.refl _ _) _⟩

def LiePost (s : Sch) (w : World) (e : Ending) (w' : World) : Prop :=
  ∃ A c, e = .returned (.tuple #[.slice A s.lies.length c, .int .i64 s.code]) ∧ RdL encI 1 w' w'.heap.size A s.lies.length s.lies ∧ Below w.heap.size w w'
set_option maxHeartbeats 2000000 in
set_option maxRecDepth 100000 in
theorem Lies_ok (s : Sch) (A A' : Option Addr) (c c' : Nat) (w : World) (B : Nat) (hB : B ≤ w.heap.size) (he : RdL encI 1 w B A s.errs.length s.errs) (hs : RdL encStp 11 w B A' s.steps.length s.steps) :
    Calls Tryz.prog 12 #[vSch s A c A' c'] w (LiePost s w) := by
  obtain ⟨i0, hi, hz0, hz1, hz2⟩ := info_parts infoI
  have e1 : ∀ args w, (callFunc 30 args).run Tryz.prog w = .ok (.enter 30 args) w := enters_of Tryz.func30 (by kernel_rfl) rfl
  obtain ⟨R, hR0⟩ : ∃ R, s.lies = R := ⟨_, rfl⟩
  obtain ⟨q, hq0⟩ : ∃ q, s.code = q := ⟨_, rfl⟩
  have C := Lib.hid fun (W : World) (hb : Below w.heap.size w W) => Check_ok s A A' c c' W B (Nat.le_trans hB hb.size) (he.below hb hB) (hs.below hb hB)
  have P : ∀ e w', LiePost s w e w' ↔ ∃ A c, e = .returned (.tuple #[.slice A R.length c, .int .i64 q]) ∧ RdL encI 1 w' w'.heap.size A R.length R ∧ Below w.heap.size w w' := fun e w' => by unfold LiePost; rw [hR0, hq0]
  have P' := Lib.hid P
  clear P
  generalize hP : LiePost s w = PP at *
  clear hP
  have hst : q = 0 → s.ok := fun h => Sch.code_ok (hq0.trans h)
  have hst' := Lib.hid hst
  have hR := Lib.hid hR0
  have he' := Lib.hid he
  have hs' := Lib.hid hs
  have hq := Lib.hid hq0
  clear hst hR0 he hs hq0
  simp only [hq.out] at C
  by_cases hq1 : q = 0
  · subst hq1
    have ok := hst'.out rfl
    have hRR := Lib.hid (show liesL s.steps s.errs 0 = R by rw [← hR.out]; unfold Sch.lies; rw [if_pos hq.out])
    have hn := ok.n1
    have hst := Lib.hid ok.st
    clear ok hst' hR hq
    obtain ⟨start, loc, ppb, liars, aim, errs, steps⟩ := s
    dsimp only [vSch] at *
    generalize hn' : errs.length = n at *
    have hn2 := Lib.hid hn'
    clear hn'
    go_enter Tryz.func12, Tryz.ntmps12
    go_wp2_with fail
    refine (C.out _ (below_alloc (Below.refl _ _) _)).mono ?_
    rintro e w1 ⟨rfl, hb1⟩
    have G0 := Lib.hid ((Blk.new w _ _).keep hb1)
    have hB1 := Lib.hid (below_then (below_alloc (Below.refl _ _) _) hb1)
    have hw1 : w.heap.size < w1.heap.size := by have := hb1.size; simp at this; omega
    clear hb1 C
    obtain ⟨z0, z1, z2, z3, z4, z5, z6⟩ := blk7 G0.out
    go_wp2
    clear z0 z1 z2 z3 z4 z5 z6
    go_loopg [5, 6, 7, 16] n (fun gg v _ _ s16 wr => ∃ (k : Nat) (out : List Int) (m : Nat), k ≤ n ∧ n - k ≤ gg ∧ s16 = .int .i64 k ∧ m ≤ k ∧ Hid (out.length = m) ∧ Hid (wr.ownsRow w1.heap.size 3 1 v m (out.flatMap encI)) ∧ Hid (Below w1.heap.size w1 wr) ∧ Hid (out ++ liesL steps (errs.drop k) k = R))
    case atStart => exact ⟨0, [], 0, Nat.zero_le _, by omega, rfl, by omega, Lib.hid rfl, Lib.hid (World.ownsRow_nil _ _ _ _), Lib.hid (Below.refl _ _), Lib.hid (by simpa using hRR.out)⟩
    case round =>
      obtain ⟨k, out, m, hk, hg, rfl, hmk, hlen, ho, hb, hRk⟩ := hrel
      have hBr := Lib.hid (below_then hB1.out hb.out)
      have hzr : w.heap.size < wr.heap.size := by have := hb.out.size; omega
      by_cases hlt : k < n
      · obtain ⟨b, off, x, rfl, hbB, hz, hd, c0⟩ := (he'.out.below hBr.out hB).getI hlt
        have CF := Lib.hid fun (W : World) (hW : Below w.heap.size w W) (h1 : W.cell? ⟨wr.heap.size, 0, none⟩ = some (.int .i64 k)) (h2 : W.cell? ⟨wr.heap.size + 1, 0, none⟩ = some (.int .i64 x)) =>
          ContainsFunc_Stp 30 #[.pointer (some ⟨wr.heap.size, 0, none⟩), .pointer (some ⟨wr.heap.size + 1, 0, none⟩)] (lieW k x) A' _ c' steps W B e1 (Nat.le_trans hB hW.size) (hs'.out.below hW hB) (fun W' y hb => Lies1 y k x _ _ W' (cell_keep hb h1) (cell_keep hb h2))
        rw [lieW_any k x n ppb steps hst.out] at CF
        have hRx : out ++ (if steps.any (lieP k x) then (k : Int) :: liesL steps (errs.drop (k + 1)) ((k + 1 : Nat) : Int) else liesL steps (errs.drop (k + 1)) ((k + 1 : Nat) : Int)) = R := by rw [← hRk.out, hd]; rfl
        obtain ⟨z0, z1, z2, z3, z4, z5, z6⟩ := blk7 (G0.out.keep hb.out)
        clear hd hz
        cases hy : steps.any (lieP k x)
        · rw [hy] at CF hRx
          have H := Lib.hid hRx
          clear hRx
          go_wp2_with fail
          refine (CF.out _ ?ca ?cb ?cc).mono ?_
          case ca => repeat (with_reducible first | exact hBr.out | refine below_alloc ?_ _)
          case cb => simp
          case cc => simp
          rintro e w2 ⟨rfl, hb2⟩
          have hB2 : Below w1.heap.size w1 w2 := below_then (by repeat (with_reducible first | exact hb.out | refine below_alloc ?_ _)) hb2
          have ho2 := Lib.hid (own_below ((ho.out.alloc _).alloc _) hb2)
          have H2 := Lib.hid hB2
          clear hb2 hB2
          go_wp2
          go_roundg (n - (k + 1))
          case rel => exact ⟨k + 1, out, m, by omega, Nat.le_refl _, by go_num, by omega, hlen, ho2, H2, H⟩
          case measure => omega
        · rw [hy] at CF hRx
          have H : Hid ((out ++ [(k : Int)]) ++ liesL steps (errs.drop (k + 1)) ((k + 1 : Nat) : Int) = R) := Lib.hid (by rw [← hRx]; simp)
          clear hRx
          go_wp2_with fail
          refine (CF.out _ ?ca ?cb ?cc).mono ?_
          case ca => repeat (with_reducible first | exact hBr.out | refine below_alloc ?_ _)
          case cb => simp
          case cc => simp
          rintro e w2 ⟨rfl, hb2⟩
          have hB2 : Below w1.heap.size w1 w2 := below_then (by repeat (with_reducible first | exact hb.out | refine below_alloc ?_ _)) hb2
          have ho2 := Lib.hid (own_below ((ho.out.alloc _).alloc _) hb2)
          have d0 : w2.cell? ⟨wr.heap.size, 0, none⟩ = some (.int .i64 k) := cell_keep hb2 (by simp)
          have H2 := Lib.hid hB2
          clear hb2 hB2
          have hsz : (m + 1) * 8 ≤ 140737488355328 := by omega
          go_wp2_with (at_builtin; refine wpList_append_own _ rfl (.tmp 25) (.tmp 27) 22 rfl w1.heap.size 3 i0 _ 1 8 Tryz.underlying22 hi hz0 hz1 hz2 rfl (by decide) _ m (out.flatMap encI) rfl ?c0 _ 1 1 [.int .i64 k] rfl rfl ?c1 ?c2 ?c3 hsz ?c5 ?_)
          case c0 => exact ho2.out.alloc _
          case c1 => exact World.news_of_block (cs := #[.int .i64 k]) (t := 3) (fr := (0, 0)) (new_at (by simp))
          case c2 => simp [Value.oneCell']
          case c3 => unfold maxLen; omega
          case c5 => have := H2.out.size; simp; omega
          intro v2 w3 hown hgrow _
          have hb3 : Below w1.heap.size w1 w3 := by
            refine Below.grown ?_ hgrow (by have := H2.out.size; simp; omega) (fun j hj => ?_)
            · repeat (with_reducible first | exact H2.out | refine below_alloc ?_ _)
            · exact (ho2.out.lt j hj).1
          have hown3 : w3.ownsRow w1.heap.size 3 1 v2 (m + 1) ((out ++ [(k : Int)]).flatMap encI) := by
            rw [List.flatMap_append]; exact hown
          have hl3 := Lib.hid (show (out ++ [(k : Int)]).length = m + 1 by rw [List.length_append, hlen.out]; rfl)
          have K1 := Lib.hid hb3
          have K2 := Lib.hid hown3
          clear hown hgrow hb3 hown3
          go_wp2
          go_roundg (n - (k + 1))
          case rel => exact ⟨k + 1, _, m + 1, by omega, Nat.le_refl _, by go_num, by omega, hl3, K2, K1, H⟩
          case measure => omega
      · obtain rfl : k = n := by omega
        have hRk' := hRk.out
        rw [List.drop_eq_nil_of_le (by rw [hn2.out]; omega)] at hRk'
        have hRe : out = R := by simpa [liesL] using hRk'
        have ho' := ho.out
        obtain ⟨A2, c2, rfl, hrd⟩ := RdL.of_own (enc := encI) (k := 1) (n := m) (fun _ => rfl) ho' hlen.out (by omega)
        have K := Lib.hid ((P'.out (.returned (.tuple #[.slice A2 m c2, .int .i64 0])) wr).2 ⟨A2, c2, by rw [← hRe, hlen.out], by rw [← hRe, hlen.out]; exact hrd, hBr.out⟩)
        clear hrd ho'
        go_wp2
        exact K.out
  · have hRn : R = [] := by rw [← hR.out]; unfold Sch.lies; rw [if_neg (by rw [hq.out]; exact hq1)]
    clear hst' hR
    dsimp only [vSch] at *
    go_enter Tryz.func12, Tryz.ntmps12
    go_wp2_with fail
    refine (C.out _ (below_alloc (Below.refl _ _) _)).mono ?_
    rintro e w1 ⟨rfl, hb1⟩
    have hB1 := below_then (below_alloc (Below.refl _ _) _) hb1
    have K := Lib.hid ((P'.out (.returned (.tuple #[.slice none 0 0, .int .i64 q])) w1).2 ⟨none, 0, by rw [hRn]; rfl, by rw [hRn]; exact RdL.nil _ _ _ _ _, hB1⟩)
    clear hb1 hB1 C
    go_wp2
    exact K.out
end Go.Proofs.YtnafhblioabkgaaGreat
