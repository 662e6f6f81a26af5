/- certified.Merge: what several know at a reading. -/
import Derived.Test.YtnafhblioabkgaaGreatQuorum
namespace Go.Proofs.YtnafhblioabkgaaGreat
open Go.RowKit

theorem own_below {w w' : World} {B e size n : Nat} {v : Value} {xs : List Value} (h : w.ownsRow B e size v n xs) (hb : Below w.heap.size w w') : w'.ownsRow B e size v n xs :=
  ⟨h.1, h.2.imp id fun ⟨g, cap, cur, e1, hg, hgg, rest⟩ => ⟨g, cap, cur, e1, hg, (hb.block g (Array.getElem?_eq_some_iff.1 hgg).1).trans hgg, rest⟩⟩
def nowL (t : Int) (l : List Kn) : List (Int × Int) := l.map fun k => (k.nowLo t, k.nowHi t)
theorem nowL_snoc (t : Int) (l : List Kn) (x : Kn) : nowL t (l ++ [x]) = nowL t l ++ [(x.nowLo t, x.nowHi t)] := by simp [nowL]

set_option maxHeartbeats 2000000 in
set_option maxRecDepth 100000 in
theorem Merge_ok (A : Option Addr) (n c : Nat) (l : List Kn) (t f : Int) (w : World) (B : Nat) (hB : B ≤ w.heap.size) (hr : RdL encKn 6 w B A n l) (hn' : n ≤ 64) (hv : ∀ k ∈ l, k.goodAt t) (f0 : 0 ≤ f) (f1 : f ≤ 64) :
    Calls Tryz.prog 62 #[.slice A n c, .int .i64 t, .int .i64 f] w fun e w' => e = v3 (agreeM (nowL t l) f) ∧ Below w.heap.size w w' := by
  obtain ⟨i0, hi, hz0, hz1, hz2⟩ := info_parts infoSp
  have hl := hr.len
  have t1 : decide ((64 : Int) < (n : Int)) = false := by simp; omega
  obtain ⟨w0, hw0⟩ : ∃ w0, w0 = w.alloc (.cells #[.int .i64 0, .int .i64 0] 51) := ⟨_, rfl⟩
  have hs0 : w0.heap.size = w.heap.size + 1 := by rw [hw0]; simp
  have H0 := Lib.hid (show Below w.heap.size w w0 by rw [hw0]; exact below_alloc (Below.refl _ _) _)
  have G0 := Lib.hid (show Blk w0 w.heap.size 51 #[.int .i64 0, .int .i64 0] by rw [hw0]; exact Blk.new _ _ _)
  have hr0 := Lib.hid (hr.below H0.out hB)
  have E : ∀ W v cc, (l.map fun k => (k.nowLo t, k.nowHi t)).length = n → W.ownsRow w0.heap.size 51 2 (.slice v n cc) n ((nowL t l).flatMap encSp) → Calls Tryz.prog 82 #[.slice v n cc, .int .i64 f] W fun e w' => e = v3 (agreeM (nowL t l) f) ∧ Below W.heap.size W w' := fun W v cc h1 h2 => by
    obtain ⟨A2, c2, e, hrd⟩ := RdL.of_own (enc := encSp) (k := 2) (n := n) (fun _ => rfl) h2 h1 (by omega)
    simp only [Value.slice.injEq, true_and] at e
    obtain ⟨rfl, rfl⟩ := e
    refine Agree_ok v n cc (nowL t l) f W _ (Nat.le_refl _) hrd hn' (fun s hs => ?_) f0 f1
    simp only [nowL, List.mem_map] at hs
    obtain ⟨k, hk, rfl⟩ := hs
    exact (hv k hk).span
  have E' := Lib.hid E
  have hv' := Lib.hid hv
  clear E hr hv
  generalize agreeM (nowL t l) f = R at *
  go_enter Tryz.func62, Tryz.ntmps62
  go_wp2
  go_loopg [8, 10, 11, 12, 19] n (fun gg v _ _ _ s19 wr => ∃ k : Nat, k ≤ n ∧ n - k ≤ gg ∧ s19 = .int .i64 k ∧ Hid (wr.ownsRow w0.heap.size 51 2 v k ((nowL t (l.take k)).flatMap encSp)) ∧ Hid (Below w0.heap.size w0 wr))
  case atStart => exact ⟨0, Nat.zero_le _, by omega, rfl, Lib.hid (World.ownsRow_nil _ _ _ _), Lib.hid (by rw [hw0]; exact Below.refl _ _)⟩
  case round =>
    obtain ⟨k, hk, hg, rfl, ho, hb⟩ := hrel
    by_cases hlt : k < n
    · obtain ⟨b, off, x, rfl, hbB, hz, hd, c0, c1, c2, c3, c4, c5⟩ := (hr0.out.below hb.out (by omega)).getKn hlt
      have N := Lib.hid fun W => Now_ok x t W (hv'.out x (List.mem_of_getElem? hz))
      have hts : l.take (k + 1) = l.take k ++ [x] := by rw [List.take_add_one, hz]; rfl
      have HW := Lib.hid (show nowL t (l.take (k + 1)) = nowL t (l.take k) ++ [(x.nowLo t, x.nowHi t)] by rw [hts, nowL_snoc])
      clear hd hz hts
      generalize x.nowLo t = nl at *
      generalize x.nowHi t = nh at *
      go_wp2_with fail
      refine (N.out _).mono ?_
      rintro e w1 ⟨rfl, hb1⟩
      have ho1 := Lib.hid (own_below (ho.out.alloc (.cells #[.int .i64 x.a, .int .i64 x.lo, .int .i64 x.hi, .int .i64 x.ppb, .int .i64 x.learnt, .int .i64 x.refused] 64)) hb1)
      have hB1 := Lib.hid (below_then (below_alloc hb.out _) hb1)
      clear hb1
      have hsz : (k + 1) * 16 ≤ 140737488355328 := by omega
      go_wp2_with (at_builtin; refine wpList_append_own _ rfl (.tmp 33) (.tmp 35) 115 rfl w0.heap.size 51 i0 _ 2 16 Tryz.underlying115 hi hz0 hz1 hz2 rfl (by decide) _ k ((nowL t (l.take k)).flatMap encSp) rfl ?c0 _ 1 1 [.int .i64 nl, .int .i64 nh] rfl rfl ?c1 ?c2 ?c3 hsz ?c5 ?_)
      case c0 => exact (ho1.out.alloc _).alloc _
      case c1 => exact World.news_of_block (cs := #[.int .i64 nl, .int .i64 nh]) (t := 51) (fr := (0, 0)) (new_at (by simp))
      case c2 => simp [Value.oneCell']
      case c3 => unfold maxLen; omega
      case c5 => have := hB1.out.size; simp; omega
      intro v2 w2 hown hgrow _
      have hb2 : Below w0.heap.size w0 w2 := by
        refine Below.grown ?_ hgrow (by have := hB1.out.size; simp; omega) (fun j hj => ?_)
        · repeat (with_reducible first | exact hB1.out | refine below_alloc ?_ _ | refine below_drewN ?_ _ | refine below_drew ?_)
        · exact (ho1.out.lt j hj).1
      have hown2 : w2.ownsRow w0.heap.size 51 2 v2 (k + 1) ((nowL t (l.take (k + 1))).flatMap encSp) := by
        rw [HW.out, List.flatMap_append, hs0]; exact hown
      have H1 := Lib.hid hb2
      have H2 := Lib.hid hown2
      clear hown hgrow hb2 hown2
      go_wp2
      go_roundg (n - (k + 1))
      case rel => exact ⟨k + 1, by omega, Nat.le_refl _, by go_num, H2, H1⟩
      case measure => omega
    · obtain rfl : k = n := by omega
      have ho' := ho.out
      rw [List.take_of_length_le (by omega)] at ho'
      obtain ⟨A2, c2, rfl⟩ := own_slice ho'
      have Ec := Lib.hid (E'.out _ _ _ (by simp [hl]) ho')
      have hB := Lib.hid (below_then H0.out hb.out)
      have hz1 : w.heap.size < wr.heap.size := by have := hb.out.size; omega
      have K0 := Lib.hid (G0.out.keep hb.out)
      clear ho' ho hb
      go_wp2_with fail
      refine (Ec.out).mono ?_
      rintro e w2 ⟨rfl, hb2⟩
      have hB2 := Lib.hid (below_then hB.out hb2)
      have hz2 : w.heap.size < w2.heap.size := by have := hb2.size; omega
      obtain ⟨g0, g1, f0, f1⟩ := blk2 (K0.out.keep hb2)
      clear hb2
      dsimp only [v3]
      go_wp2
      exact bodyPost_ret (v := .tuple #[.agg #[.int .i64 R.1, .int .i64 R.2.1], .int .i64 R.2.2]) (by rw [results_cell_tmp Tryz.results62]; go_simp) rfl ⟨rfl, by repeat (with_reducible first | exact hB2.out | refine below_alloc ?_ _ | refine below_set ?_ (by omega) _)⟩
end Go.Proofs.YtnafhblioabkgaaGreat
