/- The reference's layer 34: a number is put into an ascending list. -/
import Derived.Test.YtnafhblioabkgaaGreatRCount
import Derived.Test.YtnafhblioabkgaaGreatPieces
import Derived.Test.YtnafhblioabkgaaGreatLies
import Derived.Deep.RegionHeld3
import Derived.Maps.AppendAt
namespace Go.Proofs.YtnafhblioabkgaaGreat
open Go.RowKit

/-- append of a slice that reads as a list, or of nothing. -/
theorem run_append_any {P : Program} (w : World) (t ty : TypeId) (base : Nat) (e : TypeId) (i : TypeInfo) (z : Value) (size bytes : Nat) (ht : P.underlying t = some (.slice e)) (hi : P.info? e = some i) (hz : i.zero = some z)
    (hsize : i.size = size) (hby : i.bytes = bytes) (hzs : z.cells.size = size) (hsz : 0 < size)
    (v : Value) (n : Nat) (xs : List Value) (hown : w.ownsRow base e size v n xs)
    (A : Option Addr) (m c : Nat) (news : List Value) (hl : news.length = m * size) (hA : 0 < m → ∃ a, A = some a ∧ ∀ j u, news[j]? = some u → w.cell? (a.add j) = some u) (h1 : ∀ u ∈ news, u.oneCell' = true)
    (h63 : n + m ≤ maxLen) (hbytes : (n + m) * bytes ≤ 140737488355328) (hbase : base ≤ w.heap.size) :
    ∃ v' w', (Builtin.append_ #[t, t] ty #[v, .slice A m c]).run P w = .ok v' w' ∧ w'.ownsRow base e size v' (n + m) (xs ++ news) ∧ w.grownBy w' v.ownBlock := by
  cases A with
  | some a =>
    have hn : ∀ j u, news[j]? = some u → w.cell? (a.add j) = some u := by
      rcases Nat.eq_zero_or_pos m with h | h
      · subst h
        have : news = [] := List.eq_nil_of_length_eq_zero (by simpa using hl)
        subst this
        intro j u h
        simp at h
      · obtain ⟨b, e, hc⟩ := hA h
        cases e
        exact hc
    obtain ⟨v', w', hr, h2, h3, _, _⟩ := run_append_own_at (P := P) w base t ty e i z size bytes ht hi hz hsize hby hzs hsz v n xs hown a m c news hl hn h1 h63 hbytes hbase
    exact ⟨v', w', hr, h2, h3⟩
  | none =>
    obtain rfl : m = 0 := by
      rcases Nat.eq_zero_or_pos m with h | h
      · exact h
      · obtain ⟨_, e, _⟩ := hA h; cases e
    have : news = [] := List.eq_nil_of_length_eq_zero (by simpa using hl)
    subst this
    refine ⟨v, w, ?_, by simpa using hown, ⟨rfl, rfl, rfl, Nat.le_refl _, fun _ _ _ => rfl⟩⟩
    rcases hown.2 with ⟨rfl, rfl⟩ | ⟨g, cap, cur, rfl, hbg, hg, hnc, hcm, hcs, htake⟩
    · simp [Builtin.append_, run_underlying ht, sizeOf, typeInfo, hi, Builtin.lenOf, Builtin.firstCells]
    · simp [Builtin.append_, run_underlying ht, sizeOf, typeInfo, hi, Builtin.lenOf, Builtin.firstCells, hnc, storeCells]
/-- At a step of a region that draws its order. -/
theorem step_append_any {P : Program} {w : World} {ops : Array Oper} {o : Oper} {a : Act} {K : Act → World → Prop} {Q : Exit → Act → World → Prop} {E : Prop} (hgd : o.guard = none) (s x : Operand) (t : TypeId)
    (ho : o.op = .call { callee := .builtin .append, args := #[s, x], argTypes := #[t, t] })
    (v : Value) (hs : a.eval s = v) (A : Option Addr) (m c : Nat) (hx : a.eval x = .slice A m c)
    (base : Nat) (e : TypeId) (i : TypeInfo) (z : Value) (size bytes : Nat) (ht : P.underlying t = some (.slice e)) (hi : P.info? e = some i) (hz : i.zero = some z)
    (hsize : i.size = size) (hby : i.bytes = bytes) (hzs : z.cells.size = size) (hsz : 0 < size)
    (n : Nat) (xs : List Value) (hown : w.ownsRow base e size v n xs)
    (news : List Value) (hl : news.length = m * size) (hA : 0 < m → ∃ a, A = some a ∧ ∀ j u, news[j]? = some u → w.cell? (a.add j) = some u) (h1 : ∀ u ∈ news, u.oneCell' = true)
    (h63 : n + m ≤ maxLen) (hbytes : (n + m) * bytes ≤ 140737488355328) (hbase : base ≤ w.heap.size)
    (h : ∀ v' w', w'.ownsRow base e size v' (n + m) (xs ++ news) → w.grownBy w' v.ownBlock → K (a.put o.dst v') w') :
    if Region.wanted o (yielded ops a.tmps) = true then Oper.wp P o a w K Q else E := by
  have hw : Region.wanted o (yielded ops a.tmps) = true := by simp [Region.wanted, hgd]
  rw [if_pos hw]
  obtain ⟨v', w', hr, h2, h3⟩ := run_append_any (P := P) w t o.type base e i z size bytes ht hi hz hsize hby hzs hsz v n xs hown A m c news hl hA h1 h63 hbytes hbase
  unfold Oper.wp execOp
  simp only [ho, resolve, invoke, builtin, Sem.run_bind, Sem.run_pure, Result.andThen_ok, List.map_toArray, List.map_cons, List.map_nil, hs, hx, hr]
  exact h v' w' h2 h3

theorem put_split (v : Int) : ∀ (l : List Int) (k : Nat), (∀ x ∈ l.take k, x < v) → Sw.put l v = l.take k ++ Sw.put (l.drop k) v
  | l, 0, _ => by simp
  | [], k + 1, _ => by simp
  | x :: r, k + 1, h => by
    have h1 : x < v := h x (by simp)
    have ih := put_split v r k (fun y hy => h y (by simp [hy]))
    simp [Sw.put, h1, ih]
theorem put_len (v : Int) : ∀ l : List Int, (Sw.put l v).length ≤ l.length + 1
  | [] => by simp [Sw.put]
  | x :: r => by
    have := put_len v r
    simp only [Sw.put]
    split
    · simp; omega
    · split <;> simp
theorem lenI (l : List Int) : (l.flatMap encI).length = l.length := by
  induction l with
  | nil => rfl
  | cons x r ih => rw [List.flatMap_cons, List.length_append, ih, List.length_cons]; simp; omega
theorem flatI (l : List Int) : l.flatMap encI = l.map fun x => Value.int .i64 x := by
  induction l with
  | nil => rfl
  | cons x r ih => rw [List.flatMap_cons, ih]; rfl
theorem oneI (l : List Int) : ∀ u ∈ l.flatMap encI, u.oneCell' = true := by
  intro u hu
  rw [flatI, List.mem_map] at hu
  obtain ⟨x, _, rfl⟩ := hu
  rfl
theorem newsI {w : World} {B n b off : Nat} {l : List Int} (h : RdL encI 1 w B (some ⟨b, off, none⟩) n l) (i m : Nat) (him : i + m ≤ n) : ∀ j u, (((l.drop i).take m).flatMap encI)[j]? = some u → w.cell? ((⟨b, off + i, none⟩ : Addr).add j) = some u := by
  intro j u hu
  rw [flatI, List.getElem?_map, List.getElem?_take] at hu
  split at hu
  · next hj =>
    rw [List.getElem?_drop] at hu
    obtain ⟨b', off', x, e, _, hz, _, hc⟩ := h.getI (show i + j < n by omega)
    cases e
    rw [hz] at hu
    cases hu
    have hadd : (⟨b, off + i, none⟩ : Addr).add j = ⟨b, off + i + j, none⟩ := by unfold Addr.add; split <;> simp_all
    rw [hadd, Nat.add_assoc]
    exact hc
  · cases hu

/-- What holds at each step of the joining of three parts. -/
structure PutS (w : World) (B b off n : Nat) (l : List Int) (W : World) : Prop where
  rd : RdL encI 1 W B (some ⟨b, off, none⟩) n l
  bl : Below w.heap.size w W
section
variable {w : World} {B b off n : Nat} {l : List Int} {W W' : World}
theorem PutS.drew (h : PutS w B b off n l W) : PutS w B b off n l W.drew := ⟨h.rd.drew, below_drew h.bl⟩
theorem PutS.alloc (h : PutS w B b off n l W) (hB : B ≤ w.heap.size) (o : Obj) : PutS w B b off n l (W.alloc o) := ⟨h.rd.alloc (by have := h.bl.size; omega) o, below_alloc h.bl o⟩
theorem PutS.grown {row : Option Nat} (h : PutS w B b off n l W) (hB : B ≤ w.heap.size) (hg : W.grownBy W' row) (hr : ∀ k, row = some k → w.heap.size ≤ k) : PutS w B b off n l W' :=
  ⟨h.rd.keep fun b' o hb => World.cell?_of_block (a := ⟨b', o, none⟩) (hg.block b' (by have := h.bl.size; omega) (fun e => by have := hr b' e.symm; omega)), Below.grown h.bl hg h.bl.size hr⟩
end

def PutPost (R : List Int) (w : World) (e : Ending) (w' : World) : Prop :=
  ∃ A c, e = .returned (.slice A R.length c) ∧ R.length ≤ c ∧ RdL encI 1 w' w'.heap.size A R.length R ∧ Below w.heap.size w w'
theorem PutPost.of_own {R : List Int} {w w' : World} {v : Value} {n : Nat} (h : w'.ownsRow w.heap.size 3 1 v n (R.flatMap encI)) (hb : Below w.heap.size w w') (h0 : 0 < n) (hn : n ≤ 4611686018427387904) : PutPost R w (.returned v) w' := by
  have hl : R.length = n := by have := h.1; rw [lenI] at this; omega
  obtain ⟨A, c, e, hr⟩ := RdL.of_own (enc := encI) (k := 1) (n := n) (fun _ => rfl) h hl hn
  subst e
  rcases h.2 with ⟨_, h1⟩ | ⟨g, cap, cur, e, _, _, hc, _⟩
  · omega
  · cases e
    exact ⟨_, _, by rw [hl], by omega, by rw [hl]; exact hr, hb⟩

set_option maxHeartbeats 4000000 in
set_option maxRecDepth 100000 in
theorem rput_ok (A : Option Addr) (n c : Nat) (l : List Int) (v : Int) (w : World) (B : Nat) (hB : B ≤ w.heap.size) (hr : RdL encI 1 w B A n l) (hn : n ≤ 1000) (hc : n ≤ c) (h0 : n = 0 → A = none ∧ c = 0) :
    Calls Tryz.prog 131 #[.slice A n c, .int .i64 v] w (PutPost (Sw.put l v) w) := by
  obtain ⟨i0, hi, hz0, hz1, hz2⟩ := info_parts infoI
  have hl := Lib.hid hr.len
  rcases Nat.eq_zero_or_pos n with hn0 | hn0
  · obtain ⟨rfl, rfl⟩ := h0 hn0
    subst hn0
    obtain rfl : l = [] := List.eq_nil_of_length_eq_zero hl.out
    clear h0 hr hl hc hn
    go_enter Tryz.func131, Tryz.ntmps131
    go_wp2
    go_loopg [5] 0 (fun gg s5 wr => s5 = .int .i64 0 ∧ wr = w)
    case atStart => exact ⟨rfl, rfl⟩
    case round =>
      obtain ⟨rfl, rfl⟩ := hrel
      go_wp2_with fail
      go_region_held3 (fun W => Below wr.heap.size wr W) (first | exact below_drew (Below.refl _ _) | exact below_alloc ‹_› _ | exact Below.grown ‹_› hg3 (Below.size ‹_›) (fun j hj => (hown2.lt j hj).1) | exact Below.grown ‹_› hg2 (Below.size ‹_›) (fun j hj => (hown1.lt j hj).1) | exact Below.grown ‹_› hg1 (Below.size ‹_›) (by simp [Value.ownBlock])) (first
        | (refine step_append_any (by rfl) _ _ _ (by rfl) (.slice none 0 0) (by rfl) none 0 0 (by rfl) wr.heap.size 3 i0 _ 1 8 Tryz.underlying22 hi hz0 hz1 hz2 rfl (by decide) 0 [] (World.ownsRow_nil _ _ _ _) [] (by rfl) (fun h => absurd h (by omega)) (by simp) (by unfold maxLen; omega) (by omega) (by simp) ?_; intro v1 w1 hown1 hg1)
        | (refine step_append_any (by rfl) _ _ _ (by rfl) v1 (by rfl) (some ⟨_, 0, none⟩) 1 1 (by rfl) wr.heap.size 3 i0 _ 1 8 Tryz.underlying22 hi hz0 hz1 hz2 rfl (by decide) (0 + 0) ([] ++ []) (by first | exact hown1 | exact hown1.alloc _) [.int .i64 v] (by rfl) (fun _ => ⟨_, rfl, World.news_of_block (cs := #[.int .i64 v]) (t := 3) (fr := (0, 0)) (by first | exact new_at (by simp) | (rw [hg1.block _ (by simp) (by simp [Value.ownBlock])]; exact new_at (by simp)))⟩) (by simp [Value.oneCell']) (by unfold maxLen; omega) (by omega) (Below.size ‹Below wr.heap.size wr _›) ?_; intro v2 w2 hown2 hg2)
        | (refine step_append_any (by rfl) _ _ _ (by rfl) v2 (by rfl) none 0 0 (by rfl) wr.heap.size 3 i0 _ 1 8 Tryz.underlying22 hi hz0 hz1 hz2 rfl (by decide) (0 + 0 + 1) _ hown2 [] (by rfl) (fun h => absurd h (by omega)) (by simp) (by unfold maxLen; omega) (by omega) (Below.size ‹Below wr.heap.size wr _›) ?_; intro v3 w3 hown3 hg3))
      all_goals
        have K := Lib.hid (PutPost.of_own (R := Sw.put [] v) (n := 1) hown3 ‹Below wr.heap.size wr _› (by omega) (by omega))
        clear hown1 hown2 hown3
        go_wp2
        go_ret
        exact K.out
  · obtain ⟨b, off, _, rfl, hbB, _⟩ := hr.getI hn0
    have hr' := Lib.hid hr
    obtain ⟨R, hR⟩ : ∃ R, Sw.put l v = R := ⟨_, rfl⟩
    rw [hR]
    have hR' := Lib.hid hR
    clear h0 hr hR
    go_enter Tryz.func131, Tryz.ntmps131
    go_wp2
    go_loopg [5] n (fun gg s5 wr => ∃ (k : Nat), k ≤ n ∧ n - k ≤ gg ∧ s5 = .int .i64 k ∧ w = wr ∧ Hid (∀ x ∈ l.take k, x < v))
    case atStart => exact ⟨0, by omega, by omega, rfl, rfl, Lib.hid (by simp)⟩
    case round =>
      obtain ⟨k, hk, hg, rfl, rfl, hall⟩ := hrel
      by_cases hlt : k < n
      · obtain ⟨b', off', x, e9, _, hz, hd, c0⟩ := hr'.out.getI hlt
        simp only [Option.some.injEq, Addr.mk.injEq, and_true] at e9
        obtain ⟨rfl, rfl⟩ := e9
        by_cases hx : x < v
        · have hA : Hid (∀ y ∈ l.take (k + 1), y < v) := Lib.hid (by
            rw [List.take_add_one, hz]
            intro y hy
            rcases List.mem_append.1 hy with hy | hy
            · exact hall.out y hy
            · simp at hy; omega)
          clear hd hz hall
          go_wp2
          go_roundg (n - (k + 1))
          case rel => exact ⟨k + 1, by omega, Nat.le_refl _, by go_num, rfl, hA⟩
          case measure => omega
        have hs := put_split v l k hall.out
        rw [hR'.out] at hs
        by_cases hxe : x = v
        · have hRl : R = l := by
            rw [hs, hd]
            unfold Sw.put
            rw [if_neg hx, if_pos hxe, ← hd, List.take_append_drop]
          have K := Lib.hid (show PutPost R w (.returned (.slice (some ⟨b, off, none⟩) n c)) w from ⟨_, c, by rw [hRl, hl.out], by rw [hRl, hl.out]; exact hc, by rw [hRl, hl.out]; exact hr'.out.more hB, Below.refl _ _⟩)
          subst hxe
          clear hd hz hall hs hRl
          go_wp2
          go_ret
          exact K.out
        have hRl : Hid (R = [] ++ (l.drop 0).take k ++ [v] ++ (l.drop k).take (n - k)) := Lib.hid (by
          rw [hs, List.take_of_length_le (l := l.drop k) (by rw [List.length_drop, hl.out]; omega), hd]
          unfold Sw.put
          rw [if_neg hx, if_neg hxe]
          simp)
        have g1 : (x == v) = false := by simp [hxe]
        clear hd hz hall hs hxe
        have hL1 := Lib.hid (show (((l.drop 0).take k).flatMap encI).length = k * 1 by rw [lenI, List.length_take, List.length_drop, hl.out]; omega)
        have hL2 := Lib.hid (show (((l.drop k).take (n - k)).flatMap encI).length = (n - k) * 1 by rw [lenI, List.length_take, List.length_drop, hl.out]; omega)
        have hNN := Lib.hid (show 0 + k + 1 + (n - k) = n + 1 by omega)
        have HS0 : PutS w B b off n l w.drew := PutS.drew ⟨hr'.out, Below.refl _ _⟩
        have i1 : (0 : Int) ≤ (k : Int) := by omega
        have i2 : (k : Int) ≤ (n : Int) := by omega
        have i3 : (n : Int) ≤ (c : Int) := by omega
        have i4 : (k : Int) ≤ (c : Int) := by omega
        go_wp2_with fail
        go_region_held3 (PutS w B b off n l) (first | exact HS0 | exact PutS.alloc ‹PutS w B b off n l _› hB _ | exact PutS.grown ‹PutS w B b off n l _› hB hg3 (fun j hj => (hown2.lt j hj).1) | exact PutS.grown ‹PutS w B b off n l _› hB hg2 (fun j hj => (hown1.lt j hj).1) | exact PutS.grown ‹PutS w B b off n l _› hB hg1 (by simp [Value.ownBlock])) (first
          | (refine step_append_any (by rfl) _ _ _ (by rfl) (.slice none 0 0) (by rfl) (some ⟨b, off, none⟩) k c (by rfl) w.heap.size 3 i0 _ 1 8 Tryz.underlying22 hi hz0 hz1 hz2 rfl (by decide) 0 [] (World.ownsRow_nil _ _ _ _) (((l.drop 0).take k).flatMap encI) hL1.out (fun h => ⟨_, rfl, newsI (PutS.rd ‹PutS w B b off n l _›) 0 k (by omega)⟩) (oneI _) (by unfold maxLen; omega) (by omega) (Below.size (PutS.bl ‹PutS w B b off n l _›)) ?_; intro v1 w1 hown1 hg1)
          | (refine step_append_any (by rfl) _ _ _ (by rfl) v1 (by rfl) (some ⟨_, 0, none⟩) 1 1 (by rfl) w.heap.size 3 i0 _ 1 8 Tryz.underlying22 hi hz0 hz1 hz2 rfl (by decide) (0 + k) _ (by first | exact hown1 | exact hown1.alloc _) [.int .i64 v] (by rfl) (fun _ => ⟨_, rfl, World.news_of_block (cs := #[.int .i64 v]) (t := 3) (fr := (0, 0)) (by first | exact new_at (by simp) | (rw [hg1.block _ (by simp) (by simp [Value.ownBlock])]; exact new_at (by simp)))⟩) (by simp [Value.oneCell']) (by unfold maxLen; omega) (by omega) (Below.size (PutS.bl ‹PutS w B b off n l _›)) ?_; intro v2 w2 hown2 hg2)
          | (refine step_append_any (by rfl) _ _ _ (by rfl) v2 (by rfl) (if c = k then some ⟨b, off, none⟩ else some ⟨b, off + k, none⟩) (n - k) (c - k) (by rfl) w.heap.size 3 i0 _ 1 8 Tryz.underlying22 hi hz0 hz1 hz2 rfl (by decide) (0 + k + 1) _ hown2 (((l.drop k).take (n - k)).flatMap encI) hL2.out (fun h => ⟨_, if_neg (by omega), newsI (PutS.rd ‹PutS w B b off n l _›) k (n - k) (by omega)⟩) (oneI _) (by unfold maxLen; omega) (by omega) (Below.size (PutS.bl ‹PutS w B b off n l _›)) ?_; intro v3 w3 hown3 hg3))
        all_goals
          have K := Lib.hid (PutPost.of_own (R := R) (n := n + 1) (by rw [hRl.out, List.flatMap_append, List.flatMap_append, List.flatMap_append]; exact (hNN.out ▸ hown3)) (PutS.bl ‹PutS w B b off n l _›) (by omega) (by omega))
          clear hown1 hown2 hown3
          go_wp2
          all_goals
            go_ret
            exact K.out
      · obtain rfl : n = k := by omega
        have hs := put_split v l n hall.out
        rw [hR'.out] at hs
        have hRl : Hid (R = [] ++ (l.drop 0).take n ++ [v] ++ (l.drop n).take (n - n)) := Lib.hid (by
          rw [hs, List.drop_eq_nil_of_le (by rw [hl.out]; omega)]
          simp [Sw.put])
        clear hall hs
        have hL1 := Lib.hid (show (((l.drop 0).take n).flatMap encI).length = n * 1 by rw [lenI, List.length_take, List.length_drop, hl.out]; omega)
        have hL2 := Lib.hid (show (((l.drop n).take (n - n)).flatMap encI).length = 0 * 1 by rw [lenI, List.length_take, List.length_drop, hl.out]; omega)
        have hNN := Lib.hid (show 0 + n + 1 + 0 = n + 1 by omega)
        have HS0 : PutS w B b off n l w.drew := PutS.drew ⟨hr'.out, Below.refl _ _⟩
        have i1 : (0 : Int) ≤ (n : Int) := by omega
        have i2 : (n : Int) ≤ (n : Int) := by omega
        have i3 : (n : Int) ≤ (c : Int) := by omega
        have i4 : (n : Int) ≤ (c : Int) := by omega
        go_wp2_with fail
        go_region_held3 (PutS w B b off n l) (first | exact HS0 | exact PutS.alloc ‹PutS w B b off n l _› hB _ | exact PutS.grown ‹PutS w B b off n l _› hB hg3 (fun j hj => (hown2.lt j hj).1) | exact PutS.grown ‹PutS w B b off n l _› hB hg2 (fun j hj => (hown1.lt j hj).1) | exact PutS.grown ‹PutS w B b off n l _› hB hg1 (by simp [Value.ownBlock])) (first
          | (refine step_append_any (by rfl) _ _ _ (by rfl) (.slice none 0 0) (by rfl) (some ⟨b, off, none⟩) n c (by rfl) w.heap.size 3 i0 _ 1 8 Tryz.underlying22 hi hz0 hz1 hz2 rfl (by decide) 0 [] (World.ownsRow_nil _ _ _ _) (((l.drop 0).take n).flatMap encI) hL1.out (fun h => ⟨_, rfl, newsI (PutS.rd ‹PutS w B b off n l _›) 0 n (by omega)⟩) (oneI _) (by unfold maxLen; omega) (by omega) (Below.size (PutS.bl ‹PutS w B b off n l _›)) ?_; intro v1 w1 hown1 hg1)
          | (refine step_append_any (by rfl) _ _ _ (by rfl) v1 (by rfl) (some ⟨_, 0, none⟩) 1 1 (by rfl) w.heap.size 3 i0 _ 1 8 Tryz.underlying22 hi hz0 hz1 hz2 rfl (by decide) (0 + n) _ (by first | exact hown1 | exact hown1.alloc _) [.int .i64 v] (by rfl) (fun _ => ⟨_, rfl, World.news_of_block (cs := #[.int .i64 v]) (t := 3) (fr := (0, 0)) (by first | exact new_at (by simp) | (rw [hg1.block _ (by simp) (by simp [Value.ownBlock])]; exact new_at (by simp)))⟩) (by simp [Value.oneCell']) (by unfold maxLen; omega) (by omega) (Below.size (PutS.bl ‹PutS w B b off n l _›)) ?_; intro v2 w2 hown2 hg2)
          | (refine step_append_any (by rfl) _ _ _ (by rfl) v2 (by rfl) (if c = n then some ⟨b, off, none⟩ else some ⟨b, off + n, none⟩) 0 (c - n) (by rfl) w.heap.size 3 i0 _ 1 8 Tryz.underlying22 hi hz0 hz1 hz2 rfl (by decide) (0 + n + 1) _ hown2 (((l.drop n).take (n - n)).flatMap encI) hL2.out (fun h => absurd h (by omega)) (oneI _) (by unfold maxLen; omega) (by omega) (Below.size (PutS.bl ‹PutS w B b off n l _›)) ?_; intro v3 w3 hown3 hg3))
        all_goals
          have K := Lib.hid (PutPost.of_own (R := R) (n := n + 1) (by rw [hRl.out, List.flatMap_append, List.flatMap_append, List.flatMap_append]; exact (hNN.out ▸ hown3)) (PutS.bl ‹PutS w B b off n l _›) (by omega) (by omega))
          clear hown1 hown2 hown3
          go_wp2
          all_goals
            go_ret
            exact K.out
end Go.Proofs.YtnafhblioabkgaaGreat
