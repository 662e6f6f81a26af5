/- The reference's layer 34: the instants at which the number of spans can change, and the profile. -/
import Derived.Test.YtnafhblioabkgaaGreatRPut
import Derived.Test.YtnafhblioabkgaaGreatPure
import Derived.Deep.QuietTactic
namespace Go.Proofs.YtnafhblioabkgaaGreat
open Go.RowKit

theorem cuts_snoc (l : List (Int × Int)) (x : Int × Int) : Sw.cuts (l ++ [x]) = Sw.put (Sw.put (Sw.cuts l) x.1) (x.2 + 1) := by
  unfold Sw.cuts
  rw [List.foldl_append]
  rfl
theorem put_ne (l : List Int) (v : Int) : 0 < (Sw.put l v).length := by
  cases l with
  | nil => simp [Sw.put]
  | cons x r =>
    simp only [Sw.put]
    split
    · simp
    · split <;> simp
def CutPost (R : List Int) (w : World) (e : Ending) (w' : World) : Prop :=
  ∃ A c, e = .returned (.slice A R.length c) ∧ RdL encI 1 w' w'.heap.size A R.length R ∧ Below w.heap.size w w'
theorem cut_held {w w' : World} {p q : Addr} {x y : Value} (h : w.cell? p = some x ∧ w.cell? q = some y) (hb : Below w.heap.size w w') : w'.cell? p = some x ∧ w'.cell? q = some y := held2 h hb
set_option maxHeartbeats 4000000 in
set_option maxRecDepth 100000 in
theorem rcuts_ok (A : Option Addr) (n c : Nat) (l : List (Int × Int)) (w : World) (B : Nat) (hB : B ≤ w.heap.size) (hr : RdL encSp 2 w B A n l) (hn' : n ≤ 64) (hv : ∀ s ∈ l, okS s.1 s.2 = true) :
    Calls Tryz.prog 126 #[.slice A n c] w (fun e w' => CutPost (Sw.cuts l) w e w' ∧ (Sw.cuts l).length ≤ n + n) := by
  have hl := Lib.hid hr.len
  have hr' := Lib.hid hr
  have hv' := Lib.hid hv
  obtain ⟨R, hR⟩ : ∃ R, Sw.cuts l = R := ⟨_, rfl⟩
  rw [hR]
  have hR' := Lib.hid hR
  clear hr hv hR
  go_enter Tryz.func126, Tryz.ntmps126
  go_wp2
  go_loopg [3, 4] n (fun gg s3 s4 wr => ∃ (k : Nat) (A2 : Option Addr) (m c2 : Nat) (out : List Int), k ≤ n ∧ n - k ≤ gg ∧ s4 = .int .i64 k ∧ s3 = .slice A2 m c2 ∧ m ≤ k + k ∧ m ≤ c2 ∧ Hid (m = 0 → A2 = none ∧ c2 = 0) ∧ Hid (Sw.cuts (l.take k) = out) ∧ Hid (RdL encI 1 wr wr.heap.size A2 m out) ∧ Hid (Below w.heap.size w wr))
  case atStart => exact ⟨0, none, 0, 0, [], Nat.zero_le _, by omega, rfl, rfl, by omega, by omega, Lib.hid (fun _ => ⟨rfl, rfl⟩), Lib.hid rfl, Lib.hid (RdL.nil _ _ _ _ _), Lib.hid (Below.refl _ _)⟩
  case round =>
    obtain ⟨k, A2, m, c2, out, hk, hg, rfl, rfl, hm, hmc, hm0, ho, hrd, hb⟩ := hrel
    by_cases hlt : k < n
    · obtain ⟨b, off, x, rfl, hbB, hz, hd, c0, c1⟩ := (hr'.out.below hb.out hB).getSp hlt
      have hx := okS_iff.1 (hv'.out x (List.mem_of_getElem? hz))
      have hs := cuts_snoc (l.take k) x
      rw [show l.take k ++ [x] = l.take (k + 1) by rw [List.take_add_one, hz]; rfl, ho.out] at hs
      have hs' := Lib.hid hs
      clear hd hz hs
      have e1 : IntKind.i64.wrap (x.2 + 1) = x.2 + 1 := IntWalk.i64_in _ (by omega)
      have P1 := Lib.hid (rput_ok A2 m c2 out x.1 wr.drew wr.heap.size (by simp) hrd.out.drew (by omega) hmc hm0.out)
      have hl1 := put_len x.1 out
      have hl2 := put_len (x.2 + 1) (Sw.put out x.1)
      have hlo := hrd.out.len
      have hne1 := put_ne out x.1
      have hne2 := put_ne (Sw.put out x.1) (x.2 + 1)
      have P2 := Lib.hid fun (A3 : Option Addr) (c3 : Nat) (W : World) (h : RdL encI 1 W W.heap.size A3 (Sw.put out x.1).length (Sw.put out x.1)) (hc : (Sw.put out x.1).length ≤ c3) => rput_ok A3 _ c3 (Sw.put out x.1) (x.2 + 1) W W.heap.size (Nat.le_refl _) h (by omega) hc (fun h => by omega)
      generalize Sw.put out x.1 = out1 at *
      generalize Sw.put out1 (x.2 + 1) = out2 at *
      go_wp2_with fail
      go_region_held3 (fun W => W.cell? ⟨b, off + k * 2, none⟩ = some (.int .i64 x.1) ∧ W.cell? ⟨b, off + k * 2 + 1, none⟩ = some (.int .i64 x.2)) (first | exact hS2 | exact hS1 | go_keep) (first
        | (go_at_call 131; refine (P2.out _ _ _ hrd1 hc3).mono ?_; rintro e w2 ⟨A4, c4, rfl, hc4, hrd2, hb2⟩; have hS2 := cut_held hS1 hb2)
        | (go_at_call 131; refine (P1.out).mono ?_; rintro e w1 ⟨A3, c3, rfl, hc3, hrd1, hb1⟩; have hS1 := cut_held (w := wr.drew) ⟨c0, c1⟩ hb1))
      have hB2 := Lib.hid (below_then (below_then (below_drew hb.out) hb1) hb2)
      have hrd2' := Lib.hid hrd2
      have hm1 : out2.length ≤ (k + 1) + (k + 1) := by omega
      have hz2 : Hid (out2.length = 0 → A4 = none ∧ c4 = 0) := Lib.hid (fun h => by omega)
      clear hS1 hS2 hb1 hb2 hrd1 hrd2 hc3 P1 P2
      go_wp2
      go_roundg (n - (k + 1))
      case rel => exact ⟨k + 1, A4, _, c4, out2, by omega, Nat.le_refl _, by go_num, rfl, hm1, hc4, hz2, hs', hrd2', hB2⟩
      case measure => omega
    · obtain rfl : k = n := by omega
      have hor : out = R := by rw [← ho.out, List.take_of_length_le (by rw [hl.out]; omega), hR'.out]
      subst hor
      have hlo := hrd.out.len
      have K := Lib.hid (show CutPost out w (.returned (.slice A2 m c2)) wr ∧ out.length ≤ k + k from ⟨⟨A2, c2, by rw [hlo], by rw [hlo]; exact hrd.out, hb.out⟩, by omega⟩)
      clear hlo
      go_wp2
      go_ret
      exact K.out

def PrPost (R : List (Int × Int × Int)) (w : World) (e : Ending) (w' : World) : Prop :=
  ∃ A c, e = .returned (.tuple #[.slice A R.length c, .int .i64 0]) ∧ R.length ≤ 128 ∧ (∀ z ∈ R, pcB z) ∧ RdL encPc 3 w' w'.heap.size A R.length R ∧ Below w.heap.size w w'
theorem keepTwo {w1 w2 W w3 : World} {o : Obj} {row : Option Nat} {b i j : Nat} {u v : Value} (hW : W.heap = w2.heap) (h1 : w1.heap.size ≤ w2.heap.size) (hg : (W.alloc o).grownBy w3 row) (hr : ∀ k, row = some k → w1.heap.size ≤ k) (hb : b < w1.heap.size) (hu : w2.cell? ⟨b, i, none⟩ = some u) (hv : w2.cell? ⟨b, j, none⟩ = some v) : w3.cell? ⟨b, i, none⟩ = some u ∧ w3.cell? ⟨b, j, none⟩ = some v := by
  have h : w3.heap[b]? = w2.heap[b]? := (hg.block b (by simp [hW]; omega) (fun e => by have := hr b e.symm; omega)).trans ((heap_alloc_old W o (r := b) (by rw [hW]; omega)).trans (by rw [hW]))
  exact ⟨(World.cell?_of_block (a := ⟨b, i, none⟩) h).trans hu, (World.cell?_of_block (a := ⟨b, j, none⟩) h).trans hv⟩
set_option maxHeartbeats 4000000 in
set_option maxRecDepth 100000 in
theorem rProfile_ok (A : Option Addr) (n c : Nat) (l : List (Int × Int)) (w : World) (B : Nat) (hB : B ≤ w.heap.size) (hr : RdL encSp 2 w B A n l) (hn' : n ≤ 64) (hv : ∀ s ∈ l, okS s.1 s.2 = true) :
    Calls Tryz.prog 118 #[.slice A n c] w (PrPost (Sw.goC pushP (Sw.cnt l) (Sw.cuts l) []) w) := by
  obtain ⟨i0, hi, hz0, hz1, hz2⟩ := info_parts infoPc
  have C := Lib.hid (rSweep_Check A n c l w B hB hr hn' hv)
  have E := Lib.hid fun (W : World) (hb : Below w.heap.size w W) => rcuts_ok A n c l W B (Nat.le_trans hB hb.size) (hr.below hb hB) hn' hv
  have T := Lib.hid fun (t : Int) (W : World) (hb : Below w.heap.size w W) => rcount_ok A n c l t W B (Nat.le_trans hB hb.size) (hr.below hb hB) hn' hv
  have hcb := Lib.hid (cuts_bounds l (-1152921504606846976) 1152921504606846976 (fun s hs => okS_iff.1 (hv s hs))).2
  clear hr hv
  generalize Sw.cuts l = cs at *
  generalize hcn : Sw.cnt l = cn at *
  clear hcn
  obtain ⟨R, hR0⟩ : ∃ R, Sw.goC pushP cn cs [] = R := ⟨_, rfl⟩
  rw [hR0]
  have hgoal := Lib.hid hR0
  clear hR0
  generalize hP : PrPost R w = PP at *
  have hP' := Lib.hid hP
  clear hP
  go_enter Tryz.func118, Tryz.ntmps118
  go_wp2_with fail
  refine (C.out).mono ?_
  rintro e w0 ⟨rfl, hb0⟩
  have E' := Lib.hid (E.out w0 hb0)
  have hB0 := Lib.hid hb0
  clear hb0 C E
  go_wp2_with fail
  refine (E'.out).mono ?_
  rintro e w1 ⟨⟨A1, c1, rfl, hrd, hb1⟩, hM⟩
  have hrd' := Lib.hid hrd
  have hB1 := Lib.hid (below_then hB0.out hb1)
  have hlen1 := Lib.hid (show cs.length = cs.length from rfl)
  generalize hM' : cs.length = M at *
  have hM2 := Lib.hid hM'
  clear hM' hlen1 hrd hb1 E'
  go_wp2_with fail
  go_loopg [6, 7] M (fun gg v s7 wr => ∃ (k : Nat) (out : List (Int × Int × Int)) (m : Nat), (k + 1 ≤ M ∨ k = 0) ∧ M - k ≤ gg ∧ s7 = .int .i64 k ∧ m ≤ k ∧ Hid (out.length = m) ∧ Hid (∀ z ∈ out, pcB z) ∧
    Hid (wr.ownsRow w1.heap.size 158 3 v m (out.flatMap encPc)) ∧ Hid (Below w1.heap.size w1 wr) ∧ Hid (Sw.goC pushP cn (cs.drop k) out = R))
  case atStart => exact ⟨0, [], 0, .inr rfl, by omega, rfl, by omega, Lib.hid rfl, Lib.hid (by simp), Lib.hid (World.ownsRow_nil _ _ _ _), Lib.hid (Below.refl _ _), Lib.hid (by simpa using hgoal.out)⟩
  case round =>
    obtain ⟨k, out, m, hk, hg, rfl, hol, hlen, hzs, ho, hb, hR⟩ := hrel
    have e2 : IntKind.i64.wrap ((k : Int) + 1) = (k : Int) + 1 := IntWalk.i64_in _ (by omega)
    by_cases hlt : k + 1 < M
    · have i0' : (0 : Int) ≤ (k : Int) + 1 := by omega
      have i1' : ((k : Int) + 1).toNat = k + 1 := by omega
      have j1 : (k : Int) + 1 < (M : Int) := by omega
      have j2 : (k : Int) < (M : Int) := by omega
      obtain ⟨b, off, x, rfl, hbB, hz, hd, c0⟩ := (hrd'.out.below hb.out (Nat.le_refl _)).getI (show k < M by omega)
      obtain ⟨b', off', y, hbo, _, hz2', hd2, d0⟩ := (hrd'.out.below hb.out (Nat.le_refl _)).getI (show k + 1 < M by omega)
      simp only [Option.some.injEq, Addr.mk.injEq, and_true] at hbo
      obtain ⟨rfl, rfl⟩ := hbo
      have hx := hcb.out x (List.mem_of_getElem? hz)
      have hy := hcb.out y (List.mem_of_getElem? hz2')
      have hRx : (if cn x = 0 then Sw.goC pushP cn (cs.drop (k + 1)) out else Sw.goC pushP cn (cs.drop (k + 1)) (pushP out x (y - 1) (cn x))) = R := by rw [← hR.out, hd, hd2]; rfl
      have hbl : b < wr.heap.size := Nat.lt_of_lt_of_le hbB hb.out.size
      have CT := Lib.hid (T.out x wr (below_then hB1.out hb.out))
      have e3 : IntKind.i64.wrap (y - 1) = y - 1 := IntWalk.i64_in _ (by omega)
      generalize cn x = N at *
      clear hd hz hd2 hz2'
      by_cases hA : N = 0
      · rw [if_pos hA] at hRx
        have hR2 := Lib.hid hRx
        subst hA
        clear hRx
        go_wp2_with fail
        refine (CT.out).mono ?_
        rintro e w2 ⟨rfl, hb2⟩
        have hb := Lib.hid (below_then hb.out hb2)
        have ho := Lib.hid (own_below ho.out hb2)
        have hbl : b < w2.heap.size := Nat.lt_of_lt_of_le hbB hb.out.size
        replace c0 := cell_keep hb2 c0
        replace d0 := cell_keep hb2 d0
        clear hb2 CT
        obtain ⟨Ax, cx, rfl⟩ := own_slice ho.out
        have q0 : IntKind.i64.wrap ((m : Int) - 1) = (m : Int) - 1 := IntWalk.i64_in _ (by omega)
        go_wp2
        go_roundg (M - (k + 1))
        case rel => exact ⟨k + 1, out, m, .inl (by omega), Nat.le_refl _, by go_num, by omega, hlen, hzs, ho, hb, hR2⟩
        case measure => omega
      rw [if_neg hA] at hRx
      have hR2 := Lib.hid hRx
      have hA' : (N == 0) = false := by simp [hA]
      have HZ : Hid (∀ z ∈ pushP out x (y - 1) N, pcB z) := Lib.hid (pushP_all _ hzs.out ⟨by show _ ≤ x; omega, by show x ≤ _; omega, by show _ ≤ y - 1; omega, by show y - 1 ≤ _; omega⟩)
      clear hA hRx
      cases m with
      | zero =>
        obtain rfl : out = [] := List.eq_nil_of_length_eq_zero hlen.out
        obtain ⟨A3, cp1, rfl⟩ := own_slice ho.out
        have HP : Hid (pushP ([] : List (Int × Int × Int)) x (y - 1) N = [] ++ [(x, y - 1, N)]) := Lib.hid rfl
        have HL : Hid ((pushP ([] : List (Int × Int × Int)) x (y - 1) N).length = 0 + 1) := Lib.hid rfl
        go_wp2_with fail
        refine (CT.out).mono ?_
        rintro e w2 ⟨rfl, hb2⟩
        have hb := Lib.hid (below_then hb.out hb2)
        have ho := Lib.hid (own_below ho.out hb2)
        have hbl : b < w2.heap.size := Nat.lt_of_lt_of_le hbB hb.out.size
        replace c0 := cell_keep hb2 c0
        replace d0 := cell_keep hb2 d0
        clear hb2 CT
        go_wp2_with fail
        go_quiet (fail)
        go_wp2_with fail
        have hsz : (0 + 1) * 24 ≤ 140737488355328 := by omega
        go_region_held3 (fun W => W.cell? ⟨b, off + k, none⟩ = some (.int .i64 x) ∧ W.cell? ⟨b, off + (k + 1), none⟩ = some (.int .i64 y)) (first | exact hS1 | go_keep) (first
          | (refine step_append_any (by rfl) _ _ _ (by rfl) (.slice A3 0 cp1) (by rfl) (some ⟨_, 0, none⟩) 1 1 (by rfl) w1.heap.size 158 i0 _ 3 24 Tryz.underlying148 hi hz0 hz1 hz2 rfl (by decide) (0) (([] : List (Int × Int × Int)).flatMap encPc) (by (repeat (with_reducible first | refine World.ownsRow.alloc ?_ _ | refine own_drewN ?_ _ | refine own_drew ?_)); exact ho.out) [.int .i64 x, .int .i64 (y - 1), .int .i64 N] (by rfl) (fun _ => ⟨_, rfl, World.news_of_block (cs := #[.int .i64 x, .int .i64 (y - 1), .int .i64 N]) (t := 158) (fr := (0, 0)) (new_at (by simp))⟩) (by simp [Value.oneCell']) (by unfold maxLen; omega) hsz (by have := hb.out.size; simp; omega) ?_; intro v2 w3 hown hgrow; have hS1 : w3.cell? ⟨b, off + k, none⟩ = some (.int .i64 x) ∧ w3.cell? ⟨b, off + (k + 1), none⟩ = some (.int .i64 y) := keepTwo (w2 := w2) (by rfl) hb.out.size hgrow (fun j hj => (ho.out.lt j hj).1) hbB c0 d0))
        have hb3 : Below w1.heap.size w1 w3 := by
          refine Below.grown ?_ hgrow (by have := hb.out.size; simp; omega) (fun j hj => ?_)
          · repeat (with_reducible first | exact hb.out | refine below_alloc ?_ _ | refine below_drewN ?_ _ | refine below_drew ?_)
          · exact (ho.out.lt j hj).1
        have hown3 : w3.ownsRow w1.heap.size 158 3 v2 (0 + 1) ((pushP ([] : List (Int × Int × Int)) x (y - 1) N).flatMap encPc) := by
          rw [HP.out, List.flatMap_append]; exact hown
        have H1 := Lib.hid hb3
        have H2 := Lib.hid hown3
        clear hown hgrow hb3 hown3 hS1
        go_wp2
        go_roundg (M - (k + 1))
        case rel => exact ⟨k + 1, pushP ([] : List (Int × Int × Int)) x (y - 1) N, 0 + 1, .inl (by omega), Nat.le_refl _, by go_num, by omega, HL, HZ, H2, H1, hR2⟩
        case measure => omega
      | succ m =>
        obtain ⟨g, cp1, rfl, hg1, hg2⟩ := ho.out.form (Nat.succ_pos m)
        obtain ⟨z, hz⟩ : ∃ z, out[m]? = some z := ⟨_, List.getElem?_eq_getElem (by rw [hlen.out]; omega)⟩
        obtain ⟨hzb1, hzb2, hzb3, hzb4⟩ := hzs.out z (List.mem_of_getElem? hz)
        have q1 : IntKind.i64.wrap ((m : Int) + 1 - 1) = (m : Int) := by rw [show (m : Int) + 1 - 1 = m from by omega]; exact IntWalk.i64_in _ (by omega)
        have q2 : IntKind.i64.wrap (z.2.1 + 1) = z.2.1 + 1 := IntWalk.i64_in _ (by omega)
        have q3 : (0 : Int) ≤ (m : Int) := by omega
        have q4 : (m : Int) < (m : Int) + 1 := by omega
        have q5 : decide ((m : Int) ≥ 0) = true := by simp
        have hP : pushP out x (y - 1) N = if z.2.2 = N ∧ z.2.1 + 1 = x then out.set m (z.1, y - 1, z.2.2) else out ++ [(x, y - 1, N)] := by
          unfold pushP
          rw [show out.length - 1 = m from by rw [hlen.out]; omega, hz]
        have hw1 : w1.heap.size ≤ g := hg1
        have hbg : b ≠ g := by omega
        go_wp2_with fail
        refine (CT.out).mono ?_
        rintro e w2 ⟨rfl, hb2⟩
        have hb := Lib.hid (below_then hb.out hb2)
        have ho := Lib.hid (own_below ho.out hb2)
        have hbl : b < w2.heap.size := Nat.lt_of_lt_of_le hbB hb.out.size
        replace c0 := cell_keep hb2 c0
        replace d0 := cell_keep hb2 d0
        clear hb2 CT
        have d1 : w2.cell? ⟨g, m * 3 + 1, none⟩ = some (.int .i64 z.2.1) := by rw [ho.out.cellAt _ (by omega), flat_get (enc := encPc) (k := 3) (fun _ => rfl) out m z 1 hz (by omega)]; rfl
        have d2 : w2.cell? ⟨g, m * 3 + 2, none⟩ = some (.int .i64 z.2.2) := by rw [ho.out.cellAt _ (by omega), flat_get (enc := encPc) (k := 3) (fun _ => rfl) out m z 2 hz (by omega)]; rfl
        have d3 : w2.frozen? ⟨g, m * 3 + 1, none⟩ = false := ho.out.frozenAt _
        have hg2' : g < w2.heap.size := (ho.out.lt g rfl).2
        by_cases hj : z.2.2 = N ∧ z.2.1 + 1 = x
        · rw [if_pos hj] at hP
          have HP := Lib.hid hP
          have g1 : (z.2.2 == N) = true := by simp [hj.1]
          have g2 : (z.2.1 + 1 == x) = true := by simp [hj.2]
          have HL : Hid ((pushP out x (y - 1) N).length = m + 1) := Lib.hid (by rw [hP, List.length_set]; exact hlen.out)
          clear hP hj
          go_wp2_with fail
          go_quiet (fail)
          go_wp2
          go_roundg (M - (k + 1))
          case rel =>
            refine ⟨k + 1, pushP out x (y - 1) N, m + 1, .inl (by omega), Nat.le_refl _, by go_num, by omega, HL, HZ, Lib.hid ?_, Lib.hid ?_, hR2⟩
            · rw [HP.out, flat_set (enc := encPc) (k := 3) (fun _ => rfl) out m _ z 1 (.int .i64 (y - 1)) hz rfl (by omega)]
              refine (World.ownsRow.stored ?_ _ _).1
              (repeat (with_reducible first | refine World.ownsRow.alloc ?_ _ | refine own_drewN ?_ _ | refine own_drew ?_))
              exact ho.out
            · refine below_set ?_ hw1 _
              (repeat (with_reducible first | refine below_alloc ?_ _ | refine below_drewN ?_ _ | refine below_drew ?_))
              exact hb.out
          case measure => omega
        rw [if_neg hj] at hP
        have HP := Lib.hid hP
        have HL : Hid ((pushP out x (y - 1) N).length = m + 1 + 1) := Lib.hid (by rw [hP, List.length_append, hlen.out]; rfl)
        clear hP
        by_cases hj1 : z.2.2 = N
        · have g1 : (z.2.2 == N) = true := by simp [hj1]
          have g2 : (z.2.1 + 1 == x) = false := by
            rw [beq_eq_false_iff_ne]
            exact fun h => hj ⟨hj1, h⟩
          clear hj hj1
          go_wp2_with fail
          go_quiet (fail)
          go_wp2_with fail
          have hsz : ((m + 1) + 1) * 24 ≤ 140737488355328 := by omega
          go_region_held3 (fun W => W.cell? ⟨b, off + k, none⟩ = some (.int .i64 x) ∧ W.cell? ⟨b, off + (k + 1), none⟩ = some (.int .i64 y)) (first | exact hS1 | go_keep) (first
            | (refine step_append_any (by rfl) _ _ _ (by rfl) (.slice (some ⟨g, 0, none⟩) (m + 1) cp1) (by rfl) (some ⟨_, 0, none⟩) 1 1 (by rfl) w1.heap.size 158 i0 _ 3 24 Tryz.underlying148 hi hz0 hz1 hz2 rfl (by decide) ((m + 1)) (out.flatMap encPc) (by (repeat (with_reducible first | refine World.ownsRow.alloc ?_ _ | refine own_drewN ?_ _ | refine own_drew ?_)); exact ho.out) [.int .i64 x, .int .i64 (y - 1), .int .i64 N] (by rfl) (fun _ => ⟨_, rfl, World.news_of_block (cs := #[.int .i64 x, .int .i64 (y - 1), .int .i64 N]) (t := 158) (fr := (0, 0)) (new_at (by simp))⟩) (by simp [Value.oneCell']) (by unfold maxLen; omega) hsz (by have := hb.out.size; simp; omega) ?_; intro v2 w3 hown hgrow; have hS1 : w3.cell? ⟨b, off + k, none⟩ = some (.int .i64 x) ∧ w3.cell? ⟨b, off + (k + 1), none⟩ = some (.int .i64 y) := keepTwo (w2 := w2) (by rfl) hb.out.size hgrow (fun j hj => (ho.out.lt j hj).1) hbB c0 d0))
          have hb3 : Below w1.heap.size w1 w3 := by
            refine Below.grown ?_ hgrow (by have := hb.out.size; simp; omega) (fun j hj => ?_)
            · repeat (with_reducible first | exact hb.out | refine below_alloc ?_ _ | refine below_drewN ?_ _ | refine below_drew ?_)
            · exact (ho.out.lt j hj).1
          have hown3 : w3.ownsRow w1.heap.size 158 3 v2 ((m + 1) + 1) ((pushP out x (y - 1) N).flatMap encPc) := by
            rw [HP.out, List.flatMap_append]; exact hown
          have H1 := Lib.hid hb3
          have H2 := Lib.hid hown3
          clear hown hgrow hb3 hown3 hS1
          go_wp2
          go_roundg (M - (k + 1))
          case rel => exact ⟨k + 1, pushP out x (y - 1) N, (m + 1) + 1, .inl (by omega), Nat.le_refl _, by go_num, by omega, HL, HZ, H2, H1, hR2⟩
          case measure => omega
        · have g1 : (z.2.2 == N) = false := by simp [hj1]
          clear hj hj1
          go_wp2_with fail
          go_quiet (fail)
          go_wp2_with fail
          have hsz : ((m + 1) + 1) * 24 ≤ 140737488355328 := by omega
          go_region_held3 (fun W => W.cell? ⟨b, off + k, none⟩ = some (.int .i64 x) ∧ W.cell? ⟨b, off + (k + 1), none⟩ = some (.int .i64 y)) (first | exact hS1 | go_keep) (first
            | (refine step_append_any (by rfl) _ _ _ (by rfl) (.slice (some ⟨g, 0, none⟩) (m + 1) cp1) (by rfl) (some ⟨_, 0, none⟩) 1 1 (by rfl) w1.heap.size 158 i0 _ 3 24 Tryz.underlying148 hi hz0 hz1 hz2 rfl (by decide) ((m + 1)) (out.flatMap encPc) (by (repeat (with_reducible first | refine World.ownsRow.alloc ?_ _ | refine own_drewN ?_ _ | refine own_drew ?_)); exact ho.out) [.int .i64 x, .int .i64 (y - 1), .int .i64 N] (by rfl) (fun _ => ⟨_, rfl, World.news_of_block (cs := #[.int .i64 x, .int .i64 (y - 1), .int .i64 N]) (t := 158) (fr := (0, 0)) (new_at (by simp))⟩) (by simp [Value.oneCell']) (by unfold maxLen; omega) hsz (by have := hb.out.size; simp; omega) ?_; intro v2 w3 hown hgrow; have hS1 : w3.cell? ⟨b, off + k, none⟩ = some (.int .i64 x) ∧ w3.cell? ⟨b, off + (k + 1), none⟩ = some (.int .i64 y) := keepTwo (w2 := w2) (by rfl) hb.out.size hgrow (fun j hj => (ho.out.lt j hj).1) hbB c0 d0))
          have hb3 : Below w1.heap.size w1 w3 := by
            refine Below.grown ?_ hgrow (by have := hb.out.size; simp; omega) (fun j hj => ?_)
            · repeat (with_reducible first | exact hb.out | refine below_alloc ?_ _ | refine below_drewN ?_ _ | refine below_drew ?_)
            · exact (ho.out.lt j hj).1
          have hown3 : w3.ownsRow w1.heap.size 158 3 v2 ((m + 1) + 1) ((pushP out x (y - 1) N).flatMap encPc) := by
            rw [HP.out, List.flatMap_append]; exact hown
          have H1 := Lib.hid hb3
          have H2 := Lib.hid hown3
          clear hown hgrow hb3 hown3 hS1
          go_wp2
          go_roundg (M - (k + 1))
          case rel => exact ⟨k + 1, pushP out x (y - 1) N, (m + 1) + 1, .inl (by omega), Nat.le_refl _, by go_num, by omega, HL, HZ, H2, H1, hR2⟩
          case measure => omega
    · have hRR := hR.out
      have hRR' : out = R := by
        rcases hk with hk | hk
        · obtain ⟨y, hy⟩ : ∃ y, cs.drop k = [y] := by
            have : (cs.drop k).length = 1 := by rw [List.length_drop, hM2.out]; omega
            exact List.length_eq_one_iff.1 this
          rw [hy] at hRR
          exact hRR
        · subst hk
          have : cs.length = 0 ∨ cs.length = 1 := by rw [hM2.out]; omega
          rcases this with h | h
          · rw [List.drop_zero, List.eq_nil_of_length_eq_zero h] at hRR; exact hRR
          · obtain ⟨y, hy⟩ := List.length_eq_one_iff.1 h
            rw [List.drop_zero, hy] at hRR; exact hRR
      obtain ⟨A3, c3, rfl, hrd3⟩ := RdL.of_own (enc := encPc) (k := 3) (n := m) (fun _ => rfl) ho.out hlen.out (by omega)
      have K := Lib.hid (show PP (.returned (.tuple #[.slice A3 m c3, .int .i64 0])) wr by
        rw [← hP'.out]
        exact ⟨A3, c3, by rw [← hRR', hlen.out], by rw [← hRR', hlen.out]; omega, by rw [← hRR']; exact hzs.out, by rw [← hRR', hlen.out]; exact hrd3, below_then hB1.out hb.out⟩)
      have tl : decide ((k : Int) + 1 < (M : Int)) = false := by simp; omega
      clear hRR hRR' hrd3
      go_wp2
      exact K.out
end Go.Proofs.YtnafhblioabkgaaGreat
/- The reference's layers 34 and 35: where enough spans meet, and what most agree on. -/
namespace Go.Proofs.YtnafhblioabkgaaGreat
open Go.RowKit

def RlPost (R : List (Int × Int)) (w : World) (e : Ending) (w' : World) : Prop :=
  ∃ A c, e = .returned (.slice A R.length c) ∧ R.length ≤ 128 ∧ RdL encSp 2 w' w'.heap.size A R.length R ∧ Below w.heap.size w w'
set_option maxHeartbeats 4000000 in
set_option maxRecDepth 100000 in
theorem rleast_ok (A : Option Addr) (M c : Nat) (ps : List (Int × Int × Int)) (f : Int) (w : World) (B : Nat) (hB : B ≤ w.heap.size) (hr : RdL encPc 3 w B A M ps) (hM : M ≤ 128) (hpb : ∀ z ∈ ps, pcB z) :
    Calls Tryz.prog 119 #[.slice A M c, .int .i64 f] w (RlPost (leastL f ps []) w) := by
  obtain ⟨i0, hi, hz0, hz1, hz2⟩ := info_parts infoSp
  have hrd' := Lib.hid hr
  have hpb' := Lib.hid hpb
  have hM' := Lib.hid hr.len
  obtain ⟨R, hR0⟩ : ∃ R, leastL f ps [] = R := ⟨_, rfl⟩
  rw [hR0]
  have hgoal := Lib.hid hR0
  clear hR0 hr hpb
  go_enter Tryz.func119, Tryz.ntmps119
  go_wp2_with fail
  go_loopg [5, 6] M (fun gg v s6 wr => ∃ (k : Nat) (out : List (Int × Int)) (m : Nat), k ≤ M ∧ M - k ≤ gg ∧ s6 = .int .i64 k ∧ m ≤ k ∧ Hid (out.length = m) ∧ Hid (∀ z ∈ out, spB z) ∧
    Hid (wr.ownsRow w.heap.size 51 2 v m (out.flatMap encSp)) ∧ Hid (Below w.heap.size w wr) ∧ Hid (leastL f (ps.drop k) out = R))
  case atStart => exact ⟨0, [], 0, Nat.zero_le _, by omega, rfl, by omega, Lib.hid rfl, Lib.hid (by simp), Lib.hid (World.ownsRow_nil _ _ _ _), Lib.hid (Below.refl _ _), Lib.hid (by simpa using hgoal.out)⟩
  case round =>
    obtain ⟨k, out, m, hk, hg, rfl, hol, hlen, hzs, ho, hb, hR⟩ := hrel
    by_cases hlt : k < M
    · obtain ⟨b, off, x, rfl, hbB, hz, hd, c0, c1, c2⟩ := (hrd'.out.below hb.out hB).getPc hlt
      obtain ⟨hx1, hx2, hx3, hx4⟩ := hpb'.out x (List.mem_of_getElem? hz)
      have q0 : IntKind.i64.wrap ((m : Int) - 1) = (m : Int) - 1 := IntWalk.i64_in _ (by omega)
      have hbw : b < w.heap.size := by omega
      have hbl : b < wr.heap.size := by have := hb.out.size; omega
      by_cases hA : x.2.2 < f
      · have hR2 : Hid (leastL f (ps.drop (k + 1)) out = R) := Lib.hid (by rw [← hR.out, hd]; simp [leastL, hA])
        obtain ⟨Ax, cx, rfl⟩ := own_slice ho.out
        clear hd hz
        go_wp2
        go_roundg (M - (k + 1))
        case rel => exact ⟨k + 1, out, m, by omega, Nat.le_refl _, by go_num, by omega, hlen, hzs, ho, hb, hR2⟩
        case measure => omega
      have hR2 : Hid (leastL f (ps.drop (k + 1)) (pushS out x.1 x.2.1) = R) := Lib.hid (by rw [← hR.out, hd]; simp [leastL, hA])
      have HZ : Hid (∀ z ∈ pushS out x.1 x.2.1, spB z) := Lib.hid (pushS_all hzs.out ⟨hx1, hx2, hx3, hx4⟩)
      clear hd hz
      cases m with
      | zero =>
        obtain rfl : out = [] := List.eq_nil_of_length_eq_zero hlen.out
        obtain ⟨A2, cp1, rfl⟩ := own_slice ho.out
        have HP : Hid (pushS ([] : List (Int × Int)) x.1 x.2.1 = [] ++ [(x.1, x.2.1)]) := Lib.hid rfl
        have HL : Hid ((pushS ([] : List (Int × Int)) x.1 x.2.1).length = 0 + 1) := Lib.hid rfl
        go_wp2_with fail
        go_quiet (fail)
        have hsz : (0 + 1) * 16 ≤ 140737488355328 := by omega
        go_wp2_with (at_builtin; refine wpList_append_own _ rfl (.tmp 17) (.tmp 23) 115 rfl w.heap.size 51 i0 _ 2 16 Tryz.underlying115 hi hz0 hz1 hz2 rfl (by decide) _ (0) (([] : List (Int × Int)).flatMap encSp) rfl ?c0 _ 1 1 [.int .i64 x.1, .int .i64 x.2.1] rfl rfl ?c1 ?c2 ?c3 hsz ?c5 ?_)
        case c0 => (repeat (with_reducible first | refine World.ownsRow.alloc ?_ _ | refine own_drewN ?_ _ | refine own_drew ?_)); exact ho.out
        case c1 => exact World.news_of_block (cs := #[.int .i64 x.1, .int .i64 x.2.1]) (t := 51) (fr := (0, 0)) (new_at (by simp))
        case c2 => simp [Value.oneCell']
        case c3 => unfold maxLen; omega
        case c5 => have := hb.out.size; simp; omega
        intro v2 w2 hown hgrow _
        have hb2 : Below w.heap.size w w2 := by
          refine Below.grown ?_ hgrow (by have := hb.out.size; simp; omega) (fun j hj => ?_)
          · repeat (with_reducible first | exact hb.out | refine below_alloc ?_ _ | refine below_drewN ?_ _ | refine below_drew ?_)
          · exact (ho.out.lt j hj).1
        have hown2 : w2.ownsRow w.heap.size 51 2 v2 (0 + 1) ((pushS ([] : List (Int × Int)) x.1 x.2.1).flatMap encSp) := by
          rw [HP.out, List.flatMap_append]; exact hown
        have H1 := Lib.hid hb2
        have H2 := Lib.hid hown2
        clear hown hgrow hb2 hown2
        go_wp2
        go_roundg (M - (k + 1))
        case rel => exact ⟨k + 1, pushS ([] : List (Int × Int)) x.1 x.2.1, 0 + 1, by omega, Nat.le_refl _, by go_num, by omega, HL, HZ, H2, H1, hR2⟩
        case measure => omega
      | succ m =>
        obtain ⟨g, cp1, rfl, hg1, hg2⟩ := ho.out.form (Nat.succ_pos m)
        obtain ⟨z, hz⟩ : ∃ z, out[m]? = some z := ⟨_, List.getElem?_eq_getElem (by rw [hlen.out]; omega)⟩
        have d1 : wr.cell? ⟨g, m * 2 + 1, none⟩ = some (.int .i64 z.2) := by rw [ho.out.cellAt _ (by omega), flat_get (enc := encSp) (k := 2) (fun _ => rfl) out m z 1 hz (by omega)]; rfl
        have d3 : wr.frozen? ⟨g, m * 2 + 1, none⟩ = false := ho.out.frozenAt _
        obtain ⟨hzb1, hzb2, hzb3, hzb4⟩ := hzs.out z (List.mem_of_getElem? hz)
        have q1 : IntKind.i64.wrap ((m : Int) + 1 - 1) = (m : Int) := by rw [show (m : Int) + 1 - 1 = m from by omega]; exact IntWalk.i64_in _ (by omega)
        have q2 : IntKind.i64.wrap (z.2 + 1) = z.2 + 1 := IntWalk.i64_in _ (by omega)
        have q3 : (0 : Int) ≤ (m : Int) := by omega
        have q4 : (m : Int) < (m : Int) + 1 := by omega
        have q5 : decide ((m : Int) ≥ 0) = true := by simp
        have hP : pushS out x.1 x.2.1 = if z.2 + 1 = x.1 then out.set m (z.1, x.2.1) else out ++ [(x.1, x.2.1)] := by
          unfold pushS
          rw [show out.length - 1 = m from by rw [hlen.out]; omega, hz]
        have hw1 : w.heap.size ≤ g := hg1
        have hbg : b ≠ g := by omega
        clear q0
        by_cases hj : z.2 + 1 = x.1
        · rw [if_pos hj] at hP
          have HP := Lib.hid hP
          have g2 : (z.2 + 1 == x.1) = true := by simp [hj]
          have HL : Hid ((pushS out x.1 x.2.1).length = m + 1) := Lib.hid (by rw [hP, List.length_set]; exact hlen.out)
          clear hP hj
          go_wp2_with fail
          go_quiet (fail)
          go_wp2
          go_roundg (M - (k + 1))
          case rel =>
            refine ⟨k + 1, pushS out x.1 x.2.1, m + 1, by omega, Nat.le_refl _, by go_num, by omega, HL, HZ, Lib.hid ?_, Lib.hid ?_, hR2⟩
            · rw [HP.out, flat_set (enc := encSp) (k := 2) (fun _ => rfl) out m _ z 1 (.int .i64 x.2.1) hz rfl (by omega)]
              refine (World.ownsRow.stored ?_ _ _).1
              (repeat (with_reducible first | refine World.ownsRow.alloc ?_ _ | refine own_drewN ?_ _ | refine own_drew ?_))
              exact ho.out
            · refine below_set ?_ hw1 _
              (repeat (with_reducible first | refine below_alloc ?_ _ | refine below_drewN ?_ _ | refine below_drew ?_))
              exact hb.out
          case measure => omega
        rw [if_neg hj] at hP
        have HP := Lib.hid hP
        have HL : Hid ((pushS out x.1 x.2.1).length = m + 1 + 1) := Lib.hid (by rw [hP, List.length_append, hlen.out]; rfl)
        have g2 : (z.2 + 1 == x.1) = false := by simp [hj]
        clear hP hj
        go_wp2_with fail
        go_quiet (fail)
        have hsz : ((m + 1) + 1) * 16 ≤ 140737488355328 := by omega
        go_wp2_with (at_builtin; refine wpList_append_own _ rfl (.tmp 17) (.tmp 23) 115 rfl w.heap.size 51 i0 _ 2 16 Tryz.underlying115 hi hz0 hz1 hz2 rfl (by decide) _ ((m + 1)) (out.flatMap encSp) rfl ?c0 _ 1 1 [.int .i64 x.1, .int .i64 x.2.1] rfl rfl ?c1 ?c2 ?c3 hsz ?c5 ?_)
        case c0 => (repeat (with_reducible first | refine World.ownsRow.alloc ?_ _ | refine own_drewN ?_ _ | refine own_drew ?_)); exact ho.out
        case c1 => exact World.news_of_block (cs := #[.int .i64 x.1, .int .i64 x.2.1]) (t := 51) (fr := (0, 0)) (new_at (by simp))
        case c2 => simp [Value.oneCell']
        case c3 => unfold maxLen; omega
        case c5 => have := hb.out.size; simp; omega
        intro v2 w2 hown hgrow _
        have hb2 : Below w.heap.size w w2 := by
          refine Below.grown ?_ hgrow (by have := hb.out.size; simp; omega) (fun j hj => ?_)
          · repeat (with_reducible first | exact hb.out | refine below_alloc ?_ _ | refine below_drewN ?_ _ | refine below_drew ?_)
          · exact (ho.out.lt j hj).1
        have hown2 : w2.ownsRow w.heap.size 51 2 v2 ((m + 1) + 1) ((pushS out x.1 x.2.1).flatMap encSp) := by
          rw [HP.out, List.flatMap_append]; exact hown
        have H1 := Lib.hid hb2
        have H2 := Lib.hid hown2
        clear hown hgrow hb2 hown2
        go_wp2
        go_roundg (M - (k + 1))
        case rel => exact ⟨k + 1, pushS out x.1 x.2.1, (m + 1) + 1, by omega, Nat.le_refl _, by go_num, by omega, HL, HZ, H2, H1, hR2⟩
        case measure => omega
    · obtain rfl : k = M := by omega
      have hRR := hR.out
      rw [List.drop_eq_nil_of_le (by rw [hM'.out]; omega)] at hRR
      have hRR' : out = R := hRR
      obtain ⟨A3, c3, rfl, hrd3⟩ := RdL.of_own (enc := encSp) (k := 2) (n := m) (fun _ => rfl) ho.out hlen.out (by omega)
      have K := Lib.hid (show RlPost R w (.returned (.slice A3 m c3)) wr from ⟨A3, c3, by rw [← hRR', hlen.out], by rw [← hRR', hlen.out]; omega, by rw [← hRR', hlen.out]; exact hrd3, hb.out⟩)
      clear hRR hRR' hrd3
      go_wp2
      go_ret
      exact K.out

def RLPost (R : List (Int × Int)) (w : World) (e : Ending) (w' : World) : Prop :=
  ∃ A c, e = .returned (.tuple #[.slice A R.length c, .int .i64 0]) ∧ R.length ≤ 128 ∧ RdL encSp 2 w' w'.heap.size A R.length R ∧ Below w.heap.size w w'
theorem rLeast_ok (A : Option Addr) (n c : Nat) (l : List (Int × Int)) (f : Int) (w : World) (B : Nat) (hB : B ≤ w.heap.size) (hr : RdL encSp 2 w B A n l) (hn' : n ≤ 64) (hv : ∀ s ∈ l, okS s.1 s.2 = true) (f0 : 1 ≤ f) :
    Calls Tryz.prog 110 #[.slice A n c, .int .i64 f] w (RLPost (leastL f (Sw.goC pushP (Sw.cnt l) (Sw.cuts l) []) []) w) := by
  have C := Lib.hid (rProfile_ok A n c l w B hB hr hn' hv)
  have t1 : decide (f < 1) = false := by simp; omega
  clear hr hv
  generalize Sw.goC pushP (Sw.cnt l) (Sw.cuts l) [] = ps at *
  go_enter Tryz.func110, Tryz.ntmps110
  go_wp2_with fail
  refine (C.out).mono ?_
  rintro e w1 ⟨A1, c1, rfl, hl1, hpb, hrd, hb1⟩
  have L := Lib.hid (rleast_ok A1 _ c1 ps f w1 _ (Nat.le_refl _) hrd hl1 hpb)
  have hB1 := Lib.hid hb1
  clear hrd hpb hb1 C
  generalize leastL f ps [] = R at *
  generalize ps.length = M at *
  go_wp2_with fail
  refine (L.out).mono ?_
  rintro e w2 ⟨A2, c2, rfl, hl2, hrd2, hb2⟩
  have K := Lib.hid (show RLPost R w (.returned (.tuple #[.slice A2 R.length c2, .int .i64 0])) w2 from ⟨A2, c2, rfl, hl2, hrd2, below_then hB1.out hb2⟩)
  clear hrd2 hb2 L
  generalize R.length = m at *
  go_wp2
  go_ret2
  exact K.out

def hullV (o : Option (Int × Int)) : Int × Int × Int := match o with
  | none => (0, 0, 21)
  | some z => (z.1, z.2, 0)
set_option maxHeartbeats 1000000 in
theorem rHull_ok (A : Option Addr) (n c : Nat) (l : List (Int × Int)) (f : Int) (w : World) (B : Nat) (hB : B ≤ w.heap.size) (hr : RdL encSp 2 w B A n l) (hn' : n ≤ 64) (hv : ∀ s ∈ l, okS s.1 s.2 = true) (f0 : 1 ≤ f) :
    Calls Tryz.prog 93 #[.slice A n c, .int .i64 f] w fun e w' => e = v3 (hullV (hullL (leastL f (Sw.goC pushP (Sw.cnt l) (Sw.cuts l) []) []))) ∧ Below w.heap.size w w' := by
  have L1 := Lib.hid (rLeast_ok A n c l f (w.alloc (.cells #[.int .i64 0, .int .i64 0] 51)) B (by simp; omega) (hr.alloc hB _) hn' hv f0)
  clear hr hv
  generalize leastL f (Sw.goC pushP (Sw.cnt l) (Sw.cuts l) []) [] = R at *
  go_enter Tryz.func93, Tryz.ntmps93
  go_wp2_with fail
  refine (L1.out).mono ?_
  rintro e w1 ⟨A2, c2, rfl, hl, hrd, hb1⟩
  have hB1 := Lib.hid (below_then (below_alloc (Below.refl _ _) _) hb1)
  have hz1 : w.heap.size < w1.heap.size := by have := hb1.size; simp at this; omega
  obtain ⟨g0, g1, f0, f1⟩ := blk2 ((Blk.new w _ _).keep hb1)
  have hrd' := Lib.hid hrd
  clear hb1 hrd
  generalize hm : R.length = m at *
  have hm' := Lib.hid hm
  clear hm
  cases m with
  | zero =>
    obtain rfl : R = [] := List.eq_nil_of_length_eq_zero hm'.out
    go_wp2
    exact bodyPost_ret (v := .tuple #[.agg #[.int .i64 0, .int .i64 0], .int .i64 21]) (by rw [results_cell_tmp Tryz.results93]; go_simp) rfl ⟨rfl, by repeat (with_reducible first | exact hB1.out | refine below_alloc ?_ _ | refine below_set ?_ (by omega) _)⟩
  | succ m =>
    obtain ⟨b, off, x, rfl, hbB, hx, hd, c0, c1⟩ := hrd'.out.getSp (show 0 < m + 1 by omega)
    obtain ⟨b', off', y, e9, hbB', hy, hd', d0, d1⟩ := hrd'.out.getSp (show m < m + 1 by omega)
    simp only [Option.some.injEq, Addr.mk.injEq, and_true] at e9
    obtain ⟨rfl, rfl⟩ := e9
    have HH := Lib.hid (hullL_some hm'.out hx hy)
    simp only [Nat.zero_mul, Nat.add_zero] at c0 c1
    have q1 : IntKind.i64.wrap ((m : Int) + 1 - 1) = (m : Int) := by rw [show (m : Int) + 1 - 1 = m from by omega]; exact IntWalk.i64_in _ (by omega)
    have q2 : (0 : Int) < (m : Int) + 1 := by omega
    have q3 : (0 : Int) ≤ (m : Int) := by omega
    have q4 : (m : Int) < (m : Int) + 1 := by omega
    clear hd hd' hx hy d0 c1 hrd'
    go_wp2
    go_region
    all_goals
      go_wp2
      exact bodyPost_ret (v := .tuple #[.agg #[.int .i64 x.1, .int .i64 y.2], .int .i64 0]) (by rw [results_cell_tmp Tryz.results93]; go_simp) rfl ⟨by rw [HH.out]; rfl, by repeat (with_reducible first | exact hB1.out | refine below_alloc ?_ _ | refine below_drew ?_ | refine below_set ?_ (by omega) _)⟩

theorem rquorum_check (A : Option Addr) (n c : Nat) (l : List (Int × Int)) (f : Int) (w : World) (B : Nat) (hB : B ≤ w.heap.size) (hr : RdL encSp 2 w B A n l) (hn' : n ≤ 64) (hv : ∀ s ∈ l, okS s.1 s.2 = true) (f0 : 0 ≤ f) (f1 : f ≤ 64) :
    Calls Tryz.prog 92 #[.slice A n c, .int .i64 f] w fun e w' => e = .returned (.int .i64 (if (n : Int) ≤ 2 * f then 4 else 0)) ∧ Below w.heap.size w w' := by
  have C := Lib.hid (rSweep_Check A n c l w B hB hr hn' hv)
  clear hr hv hB
  have t0 : decide (f < 0) = false := by simp; omega
  have hw : IntKind.i64.wrap (2 * f) = 2 * f := IntWalk.i64_in _ (by omega)
  by_cases h1 : (n : Int) ≤ 2 * f
  · rw [if_pos h1]
    have t1 : decide (2 * f ≥ (n : Int)) = true := by simp; omega
    by_cases h2 : (n : Int) ≤ f
    · have t2 : decide (f ≥ (n : Int)) = true := by simp; omega
      go_enter Tryz.func92, Tryz.ntmps92
      go_wp2_with (go_at_call 109; refine (C.out).mono ?_; rintro e w' ⟨rfl, hb⟩)
      go_ret
      exact ⟨rfl, hb⟩
    · have t2 : decide (f ≥ (n : Int)) = false := by simp; omega
      go_enter Tryz.func92, Tryz.ntmps92
      go_wp2_with (go_at_call 109; refine (C.out).mono ?_; rintro e w' ⟨rfl, hb⟩)
      go_ret
      exact ⟨rfl, hb⟩
  · rw [if_neg h1]
    have t1 : decide (2 * f ≥ (n : Int)) = false := by simp; omega
    have t2 : decide (f ≥ (n : Int)) = false := by simp; omega
    go_enter Tryz.func92, Tryz.ntmps92
    go_wp2_with (go_at_call 109; refine (C.out).mono ?_; rintro e w' ⟨rfl, hb⟩)
    go_ret
    exact ⟨rfl, hb⟩

set_option maxHeartbeats 1000000 in
theorem rAgree_ok (A : Option Addr) (n c : Nat) (l : List (Int × Int)) (f : Int) (w : World) (B : Nat) (hB : B ≤ w.heap.size) (hr : RdL encSp 2 w B A n l) (hn' : n ≤ 64) (hv : ∀ s ∈ l, okS s.1 s.2 = true) (f0 : 0 ≤ f) (f1 : f ≤ 64) :
    Calls Tryz.prog 72 #[.slice A n c, .int .i64 f] w fun e w' => e = v3 (agreeM l f) ∧ Below w.heap.size w w' := by
  have hl := hr.len
  have L1 := Lib.hid (rquorum_check A n c l f (w.alloc (.cells #[.int .i64 0, .int .i64 0] 51)) B (by simp; omega) (hr.alloc hB _) hn' hv f0 f1)
  have hr' := Lib.hid hr
  unfold agreeM
  rw [hl]
  clear hr
  by_cases h1 : (n : Int) ≤ 2 * f
  · rw [if_pos h1] at L1
    rw [if_pos h1]
    go_enter Tryz.func72, Tryz.ntmps72
    go_wp2_with fail
    refine (L1.out).mono ?_
    rintro e w1 ⟨rfl, hb1⟩
    have hB1 := Lib.hid (below_then (below_alloc (Below.refl _ _) _) hb1)
    have hz1 : w.heap.size < w1.heap.size := by have := hb1.size; simp at this; omega
    obtain ⟨g0, g1, f0, f1⟩ := blk2 ((Blk.new w _ _).keep hb1)
    clear hb1
    go_wp2
    exact bodyPost_ret (v := .tuple #[.agg #[.int .i64 0, .int .i64 0], .int .i64 4]) (by rw [results_cell_tmp Tryz.results72]; go_simp) rfl ⟨rfl, by repeat (with_reducible first | exact hB1.out | refine below_alloc ?_ _ | refine below_set ?_ (by omega) _)⟩
  · rw [if_neg h1] at L1
    rw [if_neg h1]
    have q1 : IntKind.i64.wrap ((n : Int) - f) = (n : Int) - f := IntWalk.i64_in _ (by omega)
    have G := Lib.hid fun (W : World) (hW : B ≤ W.heap.size) (hR : RdL encSp 2 W B A n l) => rHull_ok A n c l ((n : Int) - f) W B hW hR hn' hv (by omega)
    clear hv
    show Calls _ _ _ _ fun e w' => e = v3 (hullV (hullL (leastL ((n : Int) - f) (Sw.goC pushP (Sw.cnt l) (Sw.cuts l) []) []))) ∧ _
    generalize hullV (hullL (leastL ((n : Int) - f) (Sw.goC pushP (Sw.cnt l) (Sw.cuts l) []) [])) = z at *
    go_enter Tryz.func72, Tryz.ntmps72
    go_wp2_with fail
    refine (L1.out).mono ?_
    rintro e w1 ⟨rfl, hb1⟩
    have hB1 := Lib.hid (below_then (below_alloc (Below.refl _ _) _) hb1)
    have hz1 : w.heap.size < w1.heap.size := by have := hb1.size; simp at this; omega
    have G0 := Lib.hid ((Blk.new w _ _).keep hb1)
    have G1 := Lib.hid (G.out w1 (by omega) (hr'.out.below hB1.out hB))
    clear hb1 G
    go_wp2_with fail
    refine (G1.out).mono ?_
    rintro e w2 ⟨rfl, hb2⟩
    have hB2 := Lib.hid (below_then hB1.out hb2)
    have hz2 : w.heap.size < w2.heap.size := by have := hb2.size; omega
    obtain ⟨g0, g1, f0, f1⟩ := blk2 (G0.out.keep hb2)
    clear hb2 G1 G0
    dsimp only [v3]
    go_wp2
    exact bodyPost_ret (v := .tuple #[.agg #[.int .i64 z.1, .int .i64 z.2.1], .int .i64 z.2.2]) (by rw [results_cell_tmp Tryz.results72]; go_simp) rfl ⟨rfl, by repeat (with_reducible first | exact hB2.out | refine below_alloc ?_ _ | refine below_set ?_ (by omega) _)⟩
end Go.Proofs.YtnafhblioabkgaaGreat
