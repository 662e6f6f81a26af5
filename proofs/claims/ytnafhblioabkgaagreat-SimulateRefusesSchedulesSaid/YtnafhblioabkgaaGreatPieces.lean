/- sweep.pieces: the profile of valid spans, as the sweep over the sorted events. -/
import Derived.Test.YtnafhblioabkgaaGreatEvents
import Derived.IntWalk
import Derived.BigRegion
namespace Go.Proofs.YtnafhblioabkgaaGreat
open Go.RowKit

abbrev encPc (x : Int × Int × Int) : List Value := [.int .i64 x.1, .int .i64 x.2.1, .int .i64 x.2.2]
/-- A piece is put to the end, or joined to the last one. -/
def pushP (out : List (Int × Int × Int)) (lo hi n : Int) : List (Int × Int × Int) :=
  match out[out.length - 1]? with
  | some z => if z.2.2 = n ∧ z.2.1 + 1 = lo then out.set (out.length - 1) (z.1, hi, z.2.2) else out ++ [(lo, hi, n)]
  | none => out ++ [(lo, hi, n)]
/-- A piece's ends are not too great. -/
def pcB (z : Int × Int × Int) : Prop := -1152921504606846978 ≤ z.1 ∧ z.1 ≤ 1152921504606846977 ∧ -1152921504606846978 ≤ z.2.1 ∧ z.2.1 ≤ 1152921504606846977
theorem infoPc : (Tryz.prog.info? 158).map (fun i => (i.zero, i.size, i.bytes)) = some (some (.agg #[.int .i64 0, .int .i64 0, .int .i64 0]), 3, 24) := by kernel_rfl

theorem own_base {w : World} {base base' : Nat} {e : TypeId} {s n : Nat} {v : Value} {xs : List Value} (h : w.ownsRow base e s v n xs) (hb : base' ≤ base) : w.ownsRow base' e s v n xs := by
  refine ⟨h.1, ?_⟩
  rcases h.2 with h | ⟨g, cap, cur, h1, h2, h3⟩
  · exact .inl h
  · exact .inr ⟨g, cap, cur, h1, Nat.le_trans hb h2, h3⟩
theorem pushP_all {out : List (Int × Int × Int)} {lo hi : Int} (n : Int) (h : ∀ z ∈ out, pcB z) (hn : pcB (lo, hi, n)) : ∀ z ∈ pushP out lo hi n, pcB z := by
  intro z hz
  unfold pushP at hz
  split at hz
  · next z0 h0 =>
    split at hz
    · rcases List.mem_or_eq_of_mem_set hz with hz | rfl
      · exact h z hz
      · have := h z0 (List.mem_of_getElem? h0)
        exact ⟨this.1, this.2.1, hn.2.2.1, hn.2.2.2⟩
    · rcases List.mem_append.1 hz with hz | hz
      · exact h z hz
      · simp at hz; subst hz; exact hn
  · rcases List.mem_append.1 hz with hz | hz
    · exact h z hz
    · simp at hz; subst hz; exact hn
theorem flat_get {α : Type} {enc : α → List Value} {k : Nat} (hk : ∀ x, (enc x).length = k) (l : List α) : ∀ (i : Nat) (z : α) (j : Nat), l[i]? = some z → j < k → (l.flatMap enc)[i * k + j]? = (enc z)[j]? := by
  induction l with
  | nil => intro i z j hi; simp at hi
  | cons y r ih =>
    intro i z j hi hj
    cases i with
    | zero =>
      simp at hi
      subst hi
      simp only [List.flatMap_cons, Nat.zero_mul, Nat.zero_add]
      rw [List.getElem?_append_left (by rw [hk]; exact hj)]
    | succ i =>
      simp only [List.flatMap_cons]
      rw [Nat.add_mul, Nat.one_mul, show i * k + k + j = (enc y).length + (i * k + j) from by rw [hk]; omega, List.getElem?_append_right (by omega)]
      rw [Nat.add_sub_cancel_left]
      exact ih i z j (by simpa using hi) hj
theorem new_at {W : World} {B : Nat} {cs : Array Value} {t : TypeId} (h : W.heap.size = B) : (W.alloc (.cells cs t)).heap[B]? = some (.cells cs t (0, 0)) := by
  rw [← h]; exact heap_alloc_new W _
theorem own_drewN {w : World} {base : Nat} {e : TypeId} {s n : Nat} {v : Value} {xs : List Value} (h : w.ownsRow base e s v n xs) (k : Nat) : (w.drewN k).ownsRow base e s v n xs := h
theorem own_drew {w : World} {base : Nat} {e : TypeId} {s n : Nat} {v : Value} {xs : List Value} (h : w.ownsRow base e s v n xs) : w.drew.ownsRow base e s v n xs := h
theorem own_slice {w : World} {base n : Nat} {e : TypeId} {size : Nat} {v : Value} {xs : List Value} (h : w.ownsRow base e size v n xs) : ∃ A c, v = .slice A n c := by
  rcases h.2 with ⟨rfl, rfl⟩ | ⟨g, cap, cur, rfl, _⟩
  · exact ⟨none, 0, rfl⟩
  · exact ⟨_, cap, rfl⟩
theorem flat_set {α : Type} {enc : α → List Value} {k : Nat} (hk : ∀ x, (enc x).length = k) (l : List α) : ∀ (i : Nat) (x z : α) (j : Nat) (u : Value), l[i]? = some z → enc x = (enc z).set j u → j < k → (l.set i x).flatMap enc = (l.flatMap enc).set (i * k + j) u := by
  induction l with
  | nil => intro i x z j u hi; simp at hi
  | cons y r ih =>
    intro i x z j u hi hx hj
    cases i with
    | zero =>
      simp at hi
      subst hi
      simp only [List.set_cons_zero, List.flatMap_cons, Nat.zero_mul, Nat.zero_add]
      rw [List.set_append_left _ _ (by rw [hk]; exact hj), hx]
    | succ i =>
      simp only [List.set_cons_succ, List.flatMap_cons]
      rw [ih i x z j u (by simpa using hi) hx hj, Nat.add_mul, Nat.one_mul, show i * k + k + j = (enc y).length + (i * k + j) from by rw [hk]; omega, List.set_append_right _ _ (by omega)]
      simp
def PcPost (N : Nat) (ps : List (Int × Int × Int)) (w : World) (e : Ending) (w' : World) : Prop :=
  ∃ v, e = .returned v ∧ ps.length ≤ N ∧ (∀ z ∈ ps, pcB z) ∧ w'.ownsRow w.heap.size 158 3 v ps.length (ps.flatMap encPc) ∧ Below w.heap.size w w'

set_option maxHeartbeats 2000000 in
set_option maxRecDepth 100000 in
theorem pieces_ok (A : Option Addr) (n c : Nat) (l : List (Int × Int)) (w : World) (B : Nat) (hB : B ≤ w.heap.size) (hr : RdL encSp 2 w B A n l) (hn : 0 < n) (hn' : n ≤ 64) (hv : ∀ s ∈ l, okS s.1 s.2 = true) :
    Calls Tryz.prog 129 #[.slice A n c] w (PcPost (n + n) (Sw.goC pushP (Sw.cnt l) (Sw.cuts l) []) w) := by
  obtain ⟨i0, hi, hz0, hz1, hz2⟩ := info_parts infoPc
  have E := Lib.hid (events_ok A n c l w B hB hr hn hn' hv)
  have hvs : ∀ s ∈ l, s.1 ≤ s.2 := fun s hs => (okS_iff.1 (hv s hs)).2.1
  have hSw := Lib.hid (fun es (hp : es.Perm (Sw.evs l)) hs => Sw.sweep pushP l hvs es hp hs ([] : List (Int × Int × Int)))
  have hev : Hid (∀ x ∈ Sw.evs l, -1152921504606846976 ≤ x.1 ∧ x.1 ≤ 1152921504606846977 ∧ (x.2 = 1 ∨ x.2 = -1)) := Lib.hid (by
    intro x hx
    simp only [Sw.evs, List.mem_flatMap] at hx
    obtain ⟨s, hs, hx⟩ := hx
    have := okS_iff.1 (hv s hs)
    simp at hx
    rcases hx with rfl | rfl <;> simp <;> omega)
  clear hr hv hvs
  go_enter Tryz.func129, Tryz.ntmps129
  go_wp2_with fail
  refine (E.out).mono ?_
  rintro e w1 ⟨b, cap, es, rfl, hp, hs, hrd, hb1⟩
  have hval := Lib.hid (fun x (hx : x ∈ es) => hev.out x (hp.mem_iff.1 hx))
  have hgoal := Lib.hid (hSw.out es hp hs)
  have hb1' := Lib.hid hb1
  have hrd' := Lib.hid hrd
  clear hp hs hb1 hrd E hSw hev
  generalize Sw.goC pushP (Sw.cnt l) (Sw.cuts l) [] = R at *
  go_wp2_with fail
  go_loopg [3, 5, 6, 7, 8, 9, 14] (n + n) (fun gg v s5 _ _ _ _ s14 wr => ∃ (k : Nat) (cnt : Int) (out : List (Int × Int × Int)) (m : Nat), k ≤ n + n ∧ n + n - k ≤ gg ∧ s14 = .int .i64 k ∧ s5 = .int .i64 cnt ∧ -(k : Int) ≤ cnt ∧ cnt ≤ k ∧ m ≤ k ∧ Hid (out.length = m) ∧ Hid (∀ z ∈ out, pcB z) ∧
    Hid (wr.ownsRow w1.heap.size 158 3 v m (out.flatMap encPc)) ∧ Hid (Below w1.heap.size w1 wr) ∧ Hid (Sw.goE pushP (es.drop k) cnt out = R))
  case atStart => exact ⟨0, 0, [], 0, Nat.zero_le _, by omega, rfl, rfl, by omega, by omega, by omega, Lib.hid rfl, Lib.hid (by simp), Lib.hid (World.ownsRow_nil _ _ _ _), Lib.hid (Below.refl _ _), Lib.hid (by simpa using hgoal.out)⟩
  case round =>
    obtain ⟨k, cnt, out, m, hk, hg, rfl, rfl, hc0, hc1, hol, hlen, hzs, ho, hb, hR⟩ := hrel
    by_cases hlt : k < n + n
    · obtain ⟨b', off, x, hbo, hbB, hz, hd, c0, c1⟩ := (hrd'.out.below hb.out (Nat.le_refl _)).getSp hlt
      injection hbo with hbo
      injection hbo with h1 h2
      subst h1 h2
      rw [Nat.zero_add] at c0 c1
      have hx := hval.out x (List.mem_of_getElem? hz)
      have e1 : IntKind.i64.wrap (cnt + x.2) = cnt + x.2 := IntWalk.i64_in _ (by omega)
      have e2 : IntKind.i64.wrap ((k : Int) + 1) = (k : Int) + 1 := IntWalk.i64_in _ (by omega)
      have i0' : (0 : Int) ≤ (k : Int) + 1 := by omega
      have i1' : ((k : Int) + 1).toNat = k + 1 := by omega
      by_cases hA : cnt + x.2 = 0
      · have hR2 : Hid (Sw.goE pushP (es.drop (k + 1)) (cnt + x.2) out = R) := Lib.hid (by
          rw [← hR.out, hd]
          cases h : es.drop (k + 1) with
          | nil => rfl
          | cons y r => simp only [Sw.goE]; rw [if_pos (Or.inl hA)])
        have hA' : (cnt + x.2 == 0) = true := by simp [hA]
        clear hA hd hz
        go_wp2_with fail
        go_quiet (fail)
        go_wp2
        go_roundg (n + n - (k + 1))
        case rel => exact ⟨k + 1, cnt + x.2, out, m, by omega, Nat.le_refl _, by go_num, rfl, by omega, by omega, by omega, hlen, hzs, Lib.hid (own_drewN (ho.out.alloc _) _), Lib.hid (below_drewN (below_alloc hb.out _) _), hR2⟩
        case measure => omega
      have hA' : (cnt + x.2 == 0) = false := by simp [hA]
      by_cases hB1 : k + 1 = n + n
      · have hR2 : Hid (Sw.goE pushP (es.drop (k + 1)) (cnt + x.2) out = R) := Lib.hid (by
          rw [← hR.out, hd]
          have hl := hrd'.out.len
          rw [List.drop_eq_nil_of_le (show es.length ≤ k + 1 by omega)]
          rfl)
        have hB' : ((k : Int) + 1 == (n : Int) + n) = true := by simp; omega
        clear hA hd hz hB1
        go_wp2_with fail
        go_quiet (fail)
        go_wp2
        go_roundg (n + n - (k + 1))
        case rel => exact ⟨k + 1, cnt + x.2, out, m, by omega, Nat.le_refl _, by go_num, rfl, by omega, by omega, by omega, hlen, hzs, Lib.hid (own_drewN (ho.out.alloc _) _), Lib.hid (below_drewN (below_alloc hb.out _) _), hR2⟩
        case measure => omega
      have hB' : ((k : Int) + 1 == (n : Int) + n) = false := by simp; omega
      obtain ⟨b', off, y, hbo, _, hz2', hd2, c2, c3⟩ := (hrd'.out.below hb.out (Nat.le_refl _)).getSp (show k + 1 < n + n by omega)
      injection hbo with hbo
      injection hbo with h1 h2
      subst h1 h2
      rw [Nat.zero_add] at c2 c3
      have hy := hval.out y (List.mem_of_getElem? hz2')
      have hbl : b < wr.heap.size := Nat.lt_of_lt_of_le hbB hb.out.size
      have j1 : (k : Int) + 1 < (n : Int) + n := by omega
      by_cases hC : y.1 = x.1
      · have hR2 : Hid (Sw.goE pushP (es.drop (k + 1)) (cnt + x.2) out = R) := Lib.hid (by
          rw [← hR.out, hd, hd2]
          simp only [Sw.goE]; rw [if_pos (Or.inr hC)])
        have hC' : (y.1 == x.1) = true := by simp [hC]
        clear hA hd hz hB1 hd2 hz2' hC
        go_wp2_with fail
        go_quiet (fail)
        go_wp2
        go_roundg (n + n - (k + 1))
        case rel => exact ⟨k + 1, cnt + x.2, out, m, by omega, Nat.le_refl _, by go_num, rfl, by omega, by omega, by omega, hlen, hzs, Lib.hid (own_drewN (ho.out.alloc _) _), Lib.hid (below_drewN (below_alloc hb.out _) _), hR2⟩
        case measure => omega
      have hC' : (y.1 == x.1) = false := by simp [hC]
      have e3 : IntKind.i64.wrap (y.1 - 1) = y.1 - 1 := IntWalk.i64_in _ (by omega)
      have hR2 : Hid (Sw.goE pushP (es.drop (k + 1)) (cnt + x.2) (pushP out x.1 (y.1 - 1) (cnt + x.2)) = R) := Lib.hid (by
        rw [← hR.out, hd, hd2]
        simp only [Sw.goE]; rw [if_neg (by omega)])
      have hy2 := Lib.hid (And.intro hy hx)
      clear hA hd hz hB1 hd2 hz2' hC
      have HZ : Hid (∀ z ∈ pushP out x.1 (y.1 - 1) (cnt + x.2), pcB z) := Lib.hid (pushP_all _ hzs.out ⟨by show _ ≤ x.1; omega, by show x.1 ≤ _; omega, by show _ ≤ y.1 - 1; omega, by show y.1 - 1 ≤ _; omega⟩)
      cases m with
      | zero =>
        obtain rfl : out = [] := List.eq_nil_of_length_eq_zero hlen.out
        obtain ⟨A1, cp1, rfl⟩ := own_slice ho.out
        have HP : Hid (pushP ([] : List (Int × Int × Int)) x.1 (y.1 - 1) (cnt + x.2) = [] ++ [(x.1, y.1 - 1, cnt + x.2)]) := Lib.hid rfl
        have HL : Hid ((pushP ([] : List (Int × Int × Int)) x.1 (y.1 - 1) (cnt + x.2)).length = 0 + 1) := Lib.hid rfl
        go_wp2_with fail
        go_quiet (fail)
        go_wp2_with fail
        go_region
        go_wp2_with fail
        go_quiet (fail)
        have hsz : (0 + 1) * 24 ≤ 140737488355328 := by omega
        go_wp2_with (at_builtin; refine wpList_append_own _ rfl (.tmp 91) (.tmp 93) 148 rfl w1.heap.size 158 i0 _ 3 24 Tryz.underlying148 hi hz0 hz1 hz2 rfl (by decide) _ 0 (([] : List (Int × Int × Int)).flatMap encPc) rfl ?c0 _ 1 1 [.int .i64 x.1, .int .i64 (y.1 - 1), .int .i64 (cnt + x.2)] rfl rfl ?c1 ?c2 ?c3 hsz ?c5 ?_)
        case c0 => (repeat (with_reducible first | refine World.ownsRow.alloc ?_ _ | refine own_drewN ?_ _ | refine own_drew ?_)); exact ho.out
        case c1 => exact World.news_of_block (cs := #[.int .i64 x.1, .int .i64 (y.1 - 1), .int .i64 (cnt + x.2)]) (t := 158) (fr := (0, 0)) (new_at (by simp))
        case c2 => simp [Value.oneCell']
        case c3 => unfold maxLen; omega
        case c5 => have := hb.out.size; simp; omega
        intro v2 w2 hown hgrow _
        have hb2 : Below w1.heap.size w1 w2 := by
          refine Below.grown ?_ hgrow (by have := hb.out.size; simp; omega) (fun j hj => ?_)
          · repeat (with_reducible first | exact hb.out | refine below_alloc ?_ _ | refine below_drewN ?_ _ | refine below_drew ?_)
          · exact (ho.out.lt j hj).1
        have hown2 : w2.ownsRow w1.heap.size 158 3 v2 (0 + 1) ((pushP ([] : List (Int × Int × Int)) x.1 (y.1 - 1) (cnt + x.2)).flatMap encPc) := by
          rw [HP.out, List.flatMap_append]; exact hown
        have H1 := Lib.hid hb2
        have H2 := Lib.hid hown2
        clear hown hgrow hb2 hown2
        go_wp2
        go_roundg (n + n - (k + 1))
        case rel => exact ⟨k + 1, cnt + x.2, pushP ([] : List (Int × Int × Int)) x.1 (y.1 - 1) (cnt + x.2), 0 + 1, by omega, Nat.le_refl _, by go_num, rfl, by omega, by omega, by omega, HL, HZ, H2, H1, hR2⟩
        case measure => omega
      | succ m =>
        obtain ⟨g, cp1, rfl, hg1, hg2⟩ := ho.out.form (Nat.succ_pos m)
        obtain ⟨z, hz⟩ : ∃ z, out[m]? = some z := ⟨_, List.getElem?_eq_getElem (by rw [hlen.out]; omega)⟩
        have d1 : wr.cell? ⟨g, m * 3 + 1, none⟩ = some (.int .i64 z.2.1) := by rw [ho.out.cellAt _ (by omega), flat_get (enc := encPc) (k := 3) (fun _ => rfl) out m z 1 hz (by omega)]; rfl
        have d2 : wr.cell? ⟨g, m * 3 + 2, none⟩ = some (.int .i64 z.2.2) := by rw [ho.out.cellAt _ (by omega), flat_get (enc := encPc) (k := 3) (fun _ => rfl) out m z 2 hz (by omega)]; rfl
        have d3 : wr.frozen? ⟨g, m * 3 + 1, none⟩ = false := ho.out.frozenAt _
        obtain ⟨hzb1, hzb2, hzb3, hzb4⟩ := hzs.out z (List.mem_of_getElem? hz)
        have q1 : IntKind.i64.wrap ((m : Int) + 1 - 1) = (m : Int) := by rw [show (m : Int) + 1 - 1 = m from by omega]; exact IntWalk.i64_in _ (by omega)
        have q2 : IntKind.i64.wrap (z.2.1 + 1) = z.2.1 + 1 := IntWalk.i64_in _ (by omega)
        have q3 : (0 : Int) ≤ (m : Int) := by omega
        have q4 : (m : Int) < (m : Int) + 1 := by omega
        have q5 : decide ((0 : Int) < (m : Int) + 1) = true := by first | (simp; done) | (simp; omega)
        have hP : pushP out x.1 (y.1 - 1) (cnt + x.2) = if z.2.2 = cnt + x.2 ∧ z.2.1 + 1 = x.1 then out.set m (z.1, y.1 - 1, z.2.2) else out ++ [(x.1, y.1 - 1, cnt + x.2)] := by
          unfold pushP
          rw [show out.length - 1 = m from by rw [hlen.out]; omega, hz]
        have hw1 : w1.heap.size ≤ g := hg1
        by_cases hj : z.2.2 = cnt + x.2 ∧ z.2.1 + 1 = x.1
        · rw [if_pos hj] at hP
          have HP := Lib.hid hP
          have g1 : (z.2.2 == cnt + x.2) = true := by simp [hj.1]
          have g2 : (z.2.1 + 1 == x.1) = true := by simp [hj.2]
          have HL : Hid ((pushP out x.1 (y.1 - 1) (cnt + x.2)).length = m + 1) := Lib.hid (by rw [hP, List.length_set]; exact hlen.out)
          clear hP hj
          go_wp2_with fail
          go_quiet (fail)
          go_wp2_with fail
          go_region
          go_wp2_with fail
          go_quiet (fail)
          go_wp2
          go_roundg (n + n - (k + 1))
          case rel =>
            refine ⟨k + 1, cnt + x.2, pushP out x.1 (y.1 - 1) (cnt + x.2), m + 1, by omega, Nat.le_refl _, by go_num, rfl, by omega, by omega, by omega, HL, HZ, Lib.hid ?_, Lib.hid ?_, hR2⟩
            · rw [HP.out, flat_set (enc := encPc) (k := 3) (fun _ => rfl) out m _ z 1 (.int .i64 (y.1 - 1)) hz rfl (by omega)]
              refine (World.ownsRow.stored ?_ _ _).1
              (repeat (with_reducible first | refine World.ownsRow.alloc ?_ _ | refine own_drewN ?_ _ | refine own_drew ?_))
              exact ho.out
            · refine below_set ?_ hw1 _
              (repeat (with_reducible first | refine below_alloc ?_ _ | refine below_drewN ?_ _ | refine below_drew ?_))
              exact hb.out
          case measure => omega
        rw [if_neg hj] at hP
        have HP := Lib.hid hP
        have HL : Hid ((pushP out x.1 (y.1 - 1) (cnt + x.2)).length = m + 1 + 1) := Lib.hid (by rw [hP, List.length_append, hlen.out]; rfl)
        clear hP
        by_cases hj1 : z.2.2 = cnt + x.2
        · have g1 : (z.2.2 == cnt + x.2) = true := by simp [hj1]
          have g2 : (z.2.1 + 1 == x.1) = false := by
            rw [beq_eq_false_iff_ne]
            exact fun h => hj ⟨hj1, h⟩
          clear hj hj1
          go_wp2_with fail
          go_quiet (fail)
          go_wp2_with fail
          go_region
          go_wp2_with fail
          go_quiet (fail)
          have hsz : ((m + 1) + 1) * 24 ≤ 140737488355328 := by omega
          go_wp2_with (at_builtin; refine wpList_append_own _ rfl (.tmp 91) (.tmp 93) 148 rfl w1.heap.size 158 i0 _ 3 24 Tryz.underlying148 hi hz0 hz1 hz2 rfl (by decide) _ (m + 1) (out.flatMap encPc) rfl ?c0 _ 1 1 [.int .i64 x.1, .int .i64 (y.1 - 1), .int .i64 (cnt + x.2)] rfl rfl ?c1 ?c2 ?c3 hsz ?c5 ?_)
          case c0 => (repeat (with_reducible first | refine World.ownsRow.alloc ?_ _ | refine own_drewN ?_ _ | refine own_drew ?_)); exact ho.out
          case c1 => exact World.news_of_block (cs := #[.int .i64 x.1, .int .i64 (y.1 - 1), .int .i64 (cnt + x.2)]) (t := 158) (fr := (0, 0)) (new_at (by simp))
          case c2 => simp [Value.oneCell']
          case c3 => unfold maxLen; omega
          case c5 => have := hb.out.size; simp; omega
          intro v2 w2 hown hgrow _
          have hb2 : Below w1.heap.size w1 w2 := by
            refine Below.grown ?_ hgrow (by have := hb.out.size; simp; omega) (fun j hj => ?_)
            · repeat (with_reducible first | exact hb.out | refine below_alloc ?_ _ | refine below_drewN ?_ _ | refine below_drew ?_)
            · exact (ho.out.lt j hj).1
          have hown2 : w2.ownsRow w1.heap.size 158 3 v2 ((m + 1) + 1) ((pushP out x.1 (y.1 - 1) (cnt + x.2)).flatMap encPc) := by
            rw [HP.out, List.flatMap_append]; exact hown
          have H1 := Lib.hid hb2
          have H2 := Lib.hid hown2
          clear hown hgrow hb2 hown2
          go_wp2
          go_roundg (n + n - (k + 1))
          case rel => exact ⟨k + 1, cnt + x.2, pushP out x.1 (y.1 - 1) (cnt + x.2), (m + 1) + 1, by omega, Nat.le_refl _, by go_num, rfl, by omega, by omega, by omega, HL, HZ, H2, H1, hR2⟩
          case measure => omega
        · have g1 : (z.2.2 == cnt + x.2) = false := by simp [hj1]
          clear hj hj1
          go_wp2_with fail
          go_quiet (fail)
          go_wp2_with fail
          go_region
          go_wp2_with fail
          go_quiet (fail)
          have hsz : ((m + 1) + 1) * 24 ≤ 140737488355328 := by omega
          go_wp2_with (at_builtin; refine wpList_append_own _ rfl (.tmp 91) (.tmp 93) 148 rfl w1.heap.size 158 i0 _ 3 24 Tryz.underlying148 hi hz0 hz1 hz2 rfl (by decide) _ (m + 1) (out.flatMap encPc) rfl ?c0 _ 1 1 [.int .i64 x.1, .int .i64 (y.1 - 1), .int .i64 (cnt + x.2)] rfl rfl ?c1 ?c2 ?c3 hsz ?c5 ?_)
          case c0 => (repeat (with_reducible first | refine World.ownsRow.alloc ?_ _ | refine own_drewN ?_ _ | refine own_drew ?_)); exact ho.out
          case c1 => exact World.news_of_block (cs := #[.int .i64 x.1, .int .i64 (y.1 - 1), .int .i64 (cnt + x.2)]) (t := 158) (fr := (0, 0)) (new_at (by simp))
          case c2 => simp [Value.oneCell']
          case c3 => unfold maxLen; omega
          case c5 => have := hb.out.size; simp; omega
          intro v2 w2 hown hgrow _
          have hb2 : Below w1.heap.size w1 w2 := by
            refine Below.grown ?_ hgrow (by have := hb.out.size; simp; omega) (fun j hj => ?_)
            · repeat (with_reducible first | exact hb.out | refine below_alloc ?_ _ | refine below_drewN ?_ _ | refine below_drew ?_)
            · exact (ho.out.lt j hj).1
          have hown2 : w2.ownsRow w1.heap.size 158 3 v2 ((m + 1) + 1) ((pushP out x.1 (y.1 - 1) (cnt + x.2)).flatMap encPc) := by
            rw [HP.out, List.flatMap_append]; exact hown
          have H1 := Lib.hid hb2
          have H2 := Lib.hid hown2
          clear hown hgrow hb2 hown2
          go_wp2
          go_roundg (n + n - (k + 1))
          case rel => exact ⟨k + 1, cnt + x.2, pushP out x.1 (y.1 - 1) (cnt + x.2), (m + 1) + 1, by omega, Nat.le_refl _, by go_num, rfl, by omega, by omega, by omega, HL, HZ, H2, H1, hR2⟩
          case measure => omega
    · obtain rfl : k = n + n := by omega
      have hl := hrd'.out.len
      have hRR := hR.out
      rw [List.drop_eq_nil_of_le (by omega)] at hRR
      have hRR' : out = R := hRR
      have hm := hlen.out
      have K : ∀ v, v = u3 → PcPost (n + n) R w (.returned v) wr := by
        rintro v rfl
        refine ⟨_, rfl, by rw [← hRR', hm]; omega, by rw [← hRR']; exact hzs.out, ?_, below_then hb1'.out hb.out⟩
        rw [← hRR', hm]
        exact own_base ho.out hb1'.out.size
      have K' := Lib.hid (K _ rfl)
      clear K hRR hRR' hm hl
      go_wp2
      go_ret
      exact K'.out
end Go.Proofs.YtnafhblioabkgaaGreat
/- sweep.least: the spans of instants that lie in at least so many spans. -/
namespace Go.Proofs.YtnafhblioabkgaaGreat
open Go.RowKit

theorem RdL.of_own {α : Type} {enc : α → List Value} {k : Nat} (hk : ∀ x, (enc x).length = k) {w : World} {base : Nat} {e : TypeId} {v : Value} {n : Nat} {zs : List α} (h : w.ownsRow base e k v n (zs.flatMap enc)) (hl : zs.length = n) (hb : n ≤ 4611686018427387904) :
    ∃ A c, v = .slice A n c ∧ RdL enc k w w.heap.size A n zs := by
  rcases Nat.eq_zero_or_pos n with h0 | h0
  · obtain ⟨A, c, rfl⟩ := own_slice h
    exact ⟨A, c, rfl, ⟨hl, hb, fun h => absurd h (by omega)⟩⟩
  · obtain ⟨g, cap, rfl, _, hg⟩ := h.form h0
    refine ⟨_, cap, rfl, ⟨hl, hb, fun _ => ⟨g, 0, rfl, hg, fun i x hx j u hu => ?_⟩⟩⟩
    have hi : i < n := by rw [← hl]; exact (List.getElem?_eq_some_iff.1 hx).1
    have hj : j < k := by rw [← hk x]; exact (List.getElem?_eq_some_iff.1 hu).1
    have : i * k + k ≤ n * k := by rw [← Nat.succ_mul]; exact Nat.mul_le_mul_right k hi
    rw [Nat.zero_add, h.cellAt _ (by omega), flat_get hk zs i x j hx hj, hu]
theorem RdL.getPc {w : World} {B n : Nat} {A : Option Addr} {zs : List (Int × Int × Int)} (h : RdL encPc 3 w B A n zs) {i : Nat} (hi : i < n) : ∃ b off x, A = some ⟨b, off, none⟩ ∧ b < B ∧ zs[i]? = some x ∧ zs.drop i = x :: zs.drop (i + 1) ∧ w.cell? ⟨b, off + i * 3, none⟩ = some (.int .i64 x.1) ∧ w.cell? ⟨b, off + i * 3 + 1, none⟩ = some (.int .i64 x.2.1) ∧ w.cell? ⟨b, off + i * 3 + 2, none⟩ = some (.int .i64 x.2.2) := by
  obtain ⟨b, off, x, e, hb, hz, hc⟩ := h.get hi
  refine ⟨b, off, x, e, hb, hz, ?_, ?_, ?_, ?_⟩
  · have hl := h.len
    rw [List.drop_eq_getElem_cons (by omega)]
    congr 1
    rw [List.getElem?_eq_getElem (by omega)] at hz
    exact Option.some.inj hz
  · have := hc 0 _ rfl; simpa using this
  · have := hc 1 _ rfl; simpa using this
  · have := hc 2 _ rfl; simpa using this

/-- A span is put to the end, or joined to the last one. -/
def pushS (out : List (Int × Int)) (lo hi : Int) : List (Int × Int) :=
  match out[out.length - 1]? with
  | some z => if z.2 + 1 = lo then out.set (out.length - 1) (z.1, hi) else out ++ [(lo, hi)]
  | none => out ++ [(lo, hi)]
def leastL (n : Int) : List (Int × Int × Int) → List (Int × Int) → List (Int × Int)
  | [], out => out
  | p :: r, out => if p.2.2 < n then leastL n r out else leastL n r (pushS out p.1 p.2.1)
def spB (z : Int × Int) : Prop := -1152921504606846978 ≤ z.1 ∧ z.1 ≤ 1152921504606846977 ∧ -1152921504606846978 ≤ z.2 ∧ z.2 ≤ 1152921504606846977
theorem pushS_all {out : List (Int × Int)} {lo hi : Int} (h : ∀ z ∈ out, spB z) (hn : spB (lo, hi)) : ∀ z ∈ pushS out lo hi, spB z := by
  intro z hz
  unfold pushS at hz
  split at hz
  · next z0 h0 =>
    split at hz
    · rcases List.mem_or_eq_of_mem_set hz with hz | rfl
      · exact h z hz
      · have := h z0 (List.mem_of_getElem? h0)
        exact ⟨this.1, this.2.1, hn.2.2.1, hn.2.2.2⟩
    · rcases List.mem_append.1 hz with hz | hz
      · exact h z hz
      · simp at hz; subst hz; exact hn
  · rcases List.mem_append.1 hz with hz | hz
    · exact h z hz
    · simp at hz; subst hz; exact hn
theorem infoSp : (Tryz.prog.info? 51).map (fun i => (i.zero, i.size, i.bytes)) = some (some (.agg #[.int .i64 0, .int .i64 0]), 2, 16) := by kernel_rfl

def LsPost (N : Nat) (R : List (Int × Int)) (w : World) (e : Ending) (w' : World) : Prop :=
  ∃ v, e = .returned v ∧ R.length ≤ N ∧ (∀ z ∈ R, spB z) ∧ w'.ownsRow w.heap.size 51 2 v R.length (R.flatMap encSp) ∧ Below w.heap.size w w'

set_option maxHeartbeats 2000000 in
set_option maxRecDepth 100000 in
theorem least_ok (A : Option Addr) (n c : Nat) (l : List (Int × Int)) (f : Int) (w : World) (B : Nat) (hB : B ≤ w.heap.size) (hr : RdL encSp 2 w B A n l) (hn : 0 < n) (hn' : n ≤ 64) (hv : ∀ s ∈ l, okS s.1 s.2 = true) :
    Calls Tryz.prog 123 #[.slice A n c, .int .i64 f] w (LsPost (n + n) (leastL f (Sw.goC pushP (Sw.cnt l) (Sw.cuts l) []) []) w) := by
  obtain ⟨i0, hi, hz0, hz1, hz2⟩ := info_parts infoSp
  have E := Lib.hid (pieces_ok A n c l w B hB hr hn hn' hv)
  clear hr hv
  generalize Sw.goC pushP (Sw.cnt l) (Sw.cuts l) [] = ps at *
  obtain ⟨R, hR0⟩ : ∃ R, leastL f ps [] = R := ⟨_, rfl⟩
  rw [hR0]
  have hgoal := Lib.hid hR0
  clear hR0
  go_enter Tryz.func123, Tryz.ntmps123
  go_wp2_with fail
  refine (E.out).mono ?_
  rintro e w1 ⟨v1, rfl, hpl, hpb, hown1, hb1⟩
  obtain ⟨A1, c1, rfl, hrd⟩ := RdL.of_own (enc := encPc) (k := 3) (n := ps.length) (fun _ => rfl) hown1 rfl (by omega)
  have hrd' := Lib.hid hrd
  have hpb' := Lib.hid hpb
  have hb1' := Lib.hid hb1
  generalize hM : ps.length = M at *
  have hM' := Lib.hid hM
  clear hown1 hb1 hrd hpb hM E
  go_wp2_with fail
  go_loopg [5, 7, 8, 12] M (fun gg v _ _ s12 wr => ∃ (k : Nat) (out : List (Int × Int)) (m : Nat), k ≤ M ∧ M - k ≤ gg ∧ s12 = .int .i64 k ∧ m ≤ k ∧ Hid (out.length = m) ∧ Hid (∀ z ∈ out, spB z) ∧
    Hid (wr.ownsRow w1.heap.size 51 2 v m (out.flatMap encSp)) ∧ Hid (Below w1.heap.size w1 wr) ∧ Hid (leastL f (ps.drop k) out = R))
  case atStart => exact ⟨0, [], 0, Nat.zero_le _, by omega, rfl, by omega, Lib.hid rfl, Lib.hid (by simp), Lib.hid (World.ownsRow_nil _ _ _ _), Lib.hid (Below.refl _ _), Lib.hid (by simpa using hgoal.out)⟩
  case round =>
    obtain ⟨k, out, m, hk, hg, rfl, hol, hlen, hzs, ho, hb, hR⟩ := hrel
    by_cases hlt : k < M
    · obtain ⟨b, off, x, rfl, hbB, hz, hd, c0, c1, c2⟩ := (hrd'.out.below hb.out (Nat.le_refl _)).getPc hlt
      obtain ⟨hx1, hx2, hx3, hx4⟩ := hpb'.out x (List.mem_of_getElem? hz)
      by_cases hA : x.2.2 < f
      · have hR2 : Hid (leastL f (ps.drop (k + 1)) out = R) := Lib.hid (by rw [← hR.out, hd]; simp [leastL, hA])
        clear hd hz
        go_wp2
        go_roundg (M - (k + 1))
        case rel => exact ⟨k + 1, out, m, by omega, Nat.le_refl _, by go_num, by omega, hlen, hzs, Lib.hid (ho.out.alloc _), Lib.hid (below_alloc hb.out _), hR2⟩
        case measure => omega
      have hR2 : Hid (leastL f (ps.drop (k + 1)) (pushS out x.1 x.2.1) = R) := Lib.hid (by rw [← hR.out, hd]; simp [leastL, hA])
      have HZ : Hid (∀ z ∈ pushS out x.1 x.2.1, spB z) := Lib.hid (pushS_all hzs.out ⟨hx1, hx2, hx3, hx4⟩)
      clear hd hz
      cases m with
      | zero =>
        obtain rfl : out = [] := List.eq_nil_of_length_eq_zero hlen.out
        obtain ⟨A2, cp1, rfl⟩ := own_slice ho.out
        have HP : Hid (pushS ([] : List (Int × Int)) x.1 x.2.1 = [] ++ [(x.1, x.2.1)]) := Lib.hid rfl
        have HL : Hid ((pushS ([] : List (Int × Int)) x.1 x.2.1).length = 0 + 1) := Lib.hid rfl
        go_wp2_with fail
        go_quiet (fail)
        have hsz : (0 + 1) * 16 ≤ 140737488355328 := by omega
        go_wp2_with (at_builtin; refine wpList_append_own _ rfl (.tmp 45) (.tmp 48) 115 rfl w1.heap.size 51 i0 _ 2 16 Tryz.underlying115 hi hz0 hz1 hz2 rfl (by decide) _ 0 (([] : List (Int × Int)).flatMap encSp) rfl ?c0 _ 1 1 [.int .i64 x.1, .int .i64 x.2.1] rfl rfl ?c1 ?c2 ?c3 hsz ?c5 ?_)
        case c0 => (repeat (with_reducible first | refine World.ownsRow.alloc ?_ _ | refine own_drewN ?_ _ | refine own_drew ?_)); exact ho.out
        case c1 => exact World.news_of_block (cs := #[.int .i64 x.1, .int .i64 x.2.1]) (t := 51) (fr := (0, 0)) (new_at (by simp))
        case c2 => simp [Value.oneCell']
        case c3 => unfold maxLen; omega
        case c5 => have := hb.out.size; simp; omega
        intro v2 w2 hown hgrow _
        have hb2 : Below w1.heap.size w1 w2 := by
          refine Below.grown ?_ hgrow (by have := hb.out.size; simp; omega) (fun j hj => ?_)
          · repeat (with_reducible first | exact hb.out | refine below_alloc ?_ _ | refine below_drewN ?_ _ | refine below_drew ?_)
          · exact (ho.out.lt j hj).1
        have hown2 : w2.ownsRow w1.heap.size 51 2 v2 (0 + 1) ((pushS ([] : List (Int × Int)) x.1 x.2.1).flatMap encSp) := by
          rw [HP.out, List.flatMap_append]; exact hown
        have H1 := Lib.hid hb2
        have H2 := Lib.hid hown2
        clear hown hgrow hb2 hown2
        go_wp2
        go_roundg (M - (k + 1))
        case rel => exact ⟨k + 1, pushS ([] : List (Int × Int)) x.1 x.2.1, 0 + 1, by omega, Nat.le_refl _, by go_num, by omega, HL, HZ, H2, H1, hR2⟩
        case measure => omega
      | succ m =>
        obtain ⟨g, cp1, rfl, hg1, hg2⟩ := ho.out.form (Nat.succ_pos m)
        obtain ⟨z, hz⟩ : ∃ z, out[m]? = some z := ⟨_, List.getElem?_eq_getElem (by rw [hlen.out]; omega)⟩
        have d1 : wr.cell? ⟨g, m * 2 + 1, none⟩ = some (.int .i64 z.2) := by rw [ho.out.cellAt _ (by omega), flat_get (enc := encSp) (k := 2) (fun _ => rfl) out m z 1 hz (by omega)]; rfl
        have d3 : wr.frozen? ⟨g, m * 2 + 1, none⟩ = false := ho.out.frozenAt _
        obtain ⟨hzb1, hzb2, hzb3, hzb4⟩ := hzs.out z (List.mem_of_getElem? hz)
        have q1 : IntKind.i64.wrap ((m : Int) + 1 - 1) = (m : Int) := by rw [show (m : Int) + 1 - 1 = m from by omega]; exact IntWalk.i64_in _ (by omega)
        have q2 : IntKind.i64.wrap (z.2 + 1) = z.2 + 1 := IntWalk.i64_in _ (by omega)
        have q3 : (0 : Int) ≤ (m : Int) := by omega
        have q4 : (m : Int) < (m : Int) + 1 := by omega
        have q5 : decide ((0 : Int) < (m : Int) + 1) = true := by first | (simp; done) | (simp; omega)
        have hP : pushS out x.1 x.2.1 = if z.2 + 1 = x.1 then out.set m (z.1, x.2.1) else out ++ [(x.1, x.2.1)] := by
          unfold pushS
          rw [show out.length - 1 = m from by rw [hlen.out]; omega, hz]
        have hw1 : w1.heap.size ≤ g := hg1
        by_cases hj : z.2 + 1 = x.1
        · rw [if_pos hj] at hP
          have HP := Lib.hid hP
          have g2 : (z.2 + 1 == x.1) = true := by simp [hj]
          have HL : Hid ((pushS out x.1 x.2.1).length = m + 1) := Lib.hid (by rw [hP, List.length_set]; exact hlen.out)
          clear hP hj
          go_wp2_with fail
          go_quiet (fail)
          go_wp2
          go_roundg (M - (k + 1))
          case rel =>
            refine ⟨k + 1, pushS out x.1 x.2.1, m + 1, by omega, Nat.le_refl _, by go_num, by omega, HL, HZ, Lib.hid ?_, Lib.hid ?_, hR2⟩
            · rw [HP.out, flat_set (enc := encSp) (k := 2) (fun _ => rfl) out m _ z 1 (.int .i64 x.2.1) hz rfl (by omega)]
              refine (World.ownsRow.stored ?_ _ _).1
              (repeat (with_reducible first | refine World.ownsRow.alloc ?_ _ | refine own_drewN ?_ _ | refine own_drew ?_))
              exact ho.out
            · refine below_set ?_ hw1 _
              (repeat (with_reducible first | refine below_alloc ?_ _ | refine below_drewN ?_ _ | refine below_drew ?_))
              exact hb.out
          case measure => omega
        rw [if_neg hj] at hP
        have HP := Lib.hid hP
        have HL : Hid ((pushS out x.1 x.2.1).length = m + 1 + 1) := Lib.hid (by rw [hP, List.length_append, hlen.out]; rfl)
        have g2 : (z.2 + 1 == x.1) = false := by simp [hj]
        clear hP hj
        go_wp2_with fail
        go_quiet (fail)
        have hsz : ((m + 1) + 1) * 16 ≤ 140737488355328 := by omega
        go_wp2_with (at_builtin; refine wpList_append_own _ rfl (.tmp 45) (.tmp 48) 115 rfl w1.heap.size 51 i0 _ 2 16 Tryz.underlying115 hi hz0 hz1 hz2 rfl (by decide) _ (m + 1) (out.flatMap encSp) rfl ?c0 _ 1 1 [.int .i64 x.1, .int .i64 x.2.1] rfl rfl ?c1 ?c2 ?c3 hsz ?c5 ?_)
        case c0 => (repeat (with_reducible first | refine World.ownsRow.alloc ?_ _ | refine own_drewN ?_ _ | refine own_drew ?_)); exact ho.out
        case c1 => exact World.news_of_block (cs := #[.int .i64 x.1, .int .i64 x.2.1]) (t := 51) (fr := (0, 0)) (new_at (by simp))
        case c2 => simp [Value.oneCell']
        case c3 => unfold maxLen; omega
        case c5 => have := hb.out.size; simp; omega
        intro v2 w2 hown hgrow _
        have hb2 : Below w1.heap.size w1 w2 := by
          refine Below.grown ?_ hgrow (by have := hb.out.size; simp; omega) (fun j hj => ?_)
          · repeat (with_reducible first | exact hb.out | refine below_alloc ?_ _ | refine below_drewN ?_ _ | refine below_drew ?_)
          · exact (ho.out.lt j hj).1
        have hown2 : w2.ownsRow w1.heap.size 51 2 v2 ((m + 1) + 1) ((pushS out x.1 x.2.1).flatMap encSp) := by
          rw [HP.out, List.flatMap_append]; exact hown
        have H1 := Lib.hid hb2
        have H2 := Lib.hid hown2
        clear hown hgrow hb2 hown2
        go_wp2
        go_roundg (M - (k + 1))
        case rel => exact ⟨k + 1, pushS out x.1 x.2.1, (m + 1) + 1, by omega, Nat.le_refl _, by go_num, by omega, HL, HZ, H2, H1, hR2⟩
        case measure => omega
    · obtain rfl : k = M := by omega
      have hRR := hR.out
      rw [List.drop_eq_nil_of_le (by rw [hM'.out]; omega)] at hRR
      have hRR' : out = R := hRR
      have hm := hlen.out
      have K : ∀ v, v = u5 → LsPost (n + n) R w (.returned v) wr := by
        rintro v rfl
        refine ⟨_, rfl, by rw [← hRR', hm]; omega, by rw [← hRR']; exact hzs.out, ?_, below_then hb1'.out hb.out⟩
        rw [← hRR', hm]
        exact own_base ho.out hb1'.out.size
      have K' := Lib.hid (K _ rfl)
      clear K hRR hRR' hm
      go_wp2
      go_ret
      exact K'.out
end Go.Proofs.YtnafhblioabkgaaGreat
