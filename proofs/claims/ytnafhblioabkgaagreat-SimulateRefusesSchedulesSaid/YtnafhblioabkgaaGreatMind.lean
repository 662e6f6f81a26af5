/- The player: what is known is brought up to date. -/
import Derived.Test.YtnafhblioabkgaaGreatTake
import Derived.Test.YtnafhblioabkgaaGreatAsk
namespace Go.Proofs.YtnafhblioabkgaaGreat
open Go.RowKit

theorem infoKn : (Tryz.prog.info? 64).map (fun i => (i.zero, i.size, i.bytes)) = some (some (.agg #[.int .i64 0, .int .i64 0, .int .i64 0, .int .i64 0, .int .i64 0, .int .i64 0]), 6, 48) := by kernel_rfl
theorem encKw_len (x : Option Kn) : (encKw x).length = 7 := by cases x <;> rfl
theorem src_reads {w : World} {g : Nat} {t : TypeId} {src : List (Option Kn)} (h : Blk w g t (src.flatMap encKw).toArray) (hb : src.length ≤ 4611686018427387904) : RdL encKw 7 w (g + 1) (some ⟨g, 0, none⟩) src.length src :=
  ⟨rfl, hb, fun _ => ⟨g, 0, rfl, Nat.lt_succ_self _, fun i x hx j u hu => by
    have hj : j < 7 := by rw [← encKw_len x]; exact (List.getElem?_eq_some_iff.1 hu).1
    rw [Nat.zero_add, h.list_cell, flat_get encKw_len src i x j hx hj, hu]⟩⟩
theorem RdL.getKw {w : World} {B n : Nat} {A : Option Addr} {zs : List (Option Kn)} (h : RdL encKw 7 w B A n zs) {i : Nat} (hi : i < n) : ∃ b off x, A = some ⟨b, off, none⟩ ∧ b < B ∧ zs[i]? = some x ∧ ∀ j u, (encKw x)[j]? = some u → w.cell? ⟨b, off + i * 7 + j, none⟩ = some u := h.get hi
theorem filter_snoc {l : List (Option Kn)} {k : Nat} {x : Option Kn} (hz : l[k]? = some x) : (l.take (k + 1)).filterMap id = (l.take k).filterMap id ++ x.toList := by
  rw [List.take_add_one, hz]
  cases x <;> simp

theorem take_ok (o : Option Kn) (pre post : List Value) (b n : Nat) (T : TypeId) (t lo hi p : Int) (w : World) (ho : pre.length = n) (hb : Blk w b T (pre ++ (encKw o ++ post)).toArray) (hs : okS lo hi = true) (ht : okT t = true) (p0 : 0 ≤ p) (p1 : p ≤ 1000000) (hk : ∀ k, o = some k → k.goodAt t) :
    Calls Tryz.prog 33 #[.pointer (some ⟨b, n, none⟩), .int .i64 t, .agg #[.int .i64 lo, .int .i64 hi], .int .i64 p] w (TakePost o pre post b T t lo hi p w) := by
  cases o with
  | none => exact take_first pre post b n T t lo hi p w ho hb hs ht p0 p1
  | some k => exact take_next k pre post b n T t lo hi p w ho hb hs (hk k rfl)
/-- A source's or the client's knowledge within the player's block. -/
theorem own_take (s : Sch) (A A' : Option Addr) (c c' : Nat) (sv : Value) (q : Pl) (g : Nat) (T : TypeId) (j : Nat) (lo hi : Int) (w : World) (hj : j ≤ 64) (hs : s.ok) (hq : q.good s j) (h : okS lo hi = true) (hb : Blk w g T (plC s A c A' c' sv q).toArray) :
    Calls Tryz.prog 33 #[.pointer (some ⟨g, 10, none⟩), .int .i64 q.r, .agg #[.int .i64 lo, .int .i64 hi], .int .i64 s.ppb] w fun e w' =>
      e = .returned (.tuple #[]) ∧ Blk w' g T (plC s A c A' c' sv { q with own := takeM q.own q.r lo hi s.ppb }).toArray ∧ Only g g w w' :=
  take_ok q.own _ _ g 10 T q.r lo hi s.ppb w rfl hb h (okT_mk (by have := hq.r0; omega) (by have := hq.r1; omega)) hs.p0 hs.p1 (fun k hk => ((hq.own k hk).at hs.p0 hs.p1 (Int.le_refl _) (Int.le_refl _) (by have := hq.r1; omega)).1)
theorem held2' {w w' : World} {p q : Addr} {x y : Value} (h : w.cell? p = some x ∧ w.cell? q = some y) (hb : Below w.heap.size w w') : w'.cell? p = some x ∧ w'.cell? q = some y := held2 h hb

set_option maxHeartbeats 4000000 in
set_option maxRecDepth 100000 in
theorem merge_ok (s : Sch) (A A' : Option Addr) (c c' gs cap : Nat) (q : Pl) (g : Nat) (T Ts : TypeId) (w : World) (j : Nat) (hj : j ≤ 64) (hs : s.ok) (hq : q.good s j)
    (hb : Blk w g T (plC s A c A' c' (.slice (some ⟨gs, 0, none⟩) s.errs.length cap) q).toArray) (hsrc : Blk w gs Ts (q.src.flatMap encKw).toArray) :
    Calls Tryz.prog 34 #[.pointer (some ⟨g, 0, none⟩)] w fun e w' => e = .returned (.tuple #[]) ∧ Blk w' g T (plC s A c A' c' (.slice (some ⟨gs, 0, none⟩) s.errs.length cap) (q.merged s)).toArray ∧ Only g g w w' := by
  obtain ⟨i0, hi, hz0, hz1, hz2⟩ := info_parts infoKn
  have hn := hq.n
  have hn8 := hs.n1
  have hr := src_reads hsrc (by omega)
  rw [hn] at hr
  have hr' := Lib.hid hr
  have hgl := hsrc.lt
  have hg := hb.lt
  have k9 : w.cell? ⟨g, 9, none⟩ = some (.slice (some ⟨gs, 0, none⟩) s.errs.length cap) := hb.list_cell 9
  have HB := Lib.hid hb
  have hs' := Lib.hid hs
  have hq' := Lib.hid hq
  clear hr hb hs hsrc hq
  generalize hnn : s.errs.length = n at *
  go_enter Tryz.func34, Tryz.ntmps34
  go_wp2_with fail
  go_loopg [2, 4, 12] n (fun gg v _ s12 wr => ∃ (k : Nat) (out : List Kn) (m : Nat), k ≤ n ∧ n - k ≤ gg ∧ s12 = .int .i64 k ∧ m ≤ k ∧ Hid (out.length = m) ∧ Hid (out = (q.src.take k).filterMap id) ∧ Hid (wr.ownsRow w.heap.size 64 6 v m (out.flatMap encKn)) ∧ Hid (Below w.heap.size w wr))
  case atStart => exact ⟨0, [], 0, Nat.zero_le _, by omega, rfl, by omega, Lib.hid rfl, Lib.hid rfl, Lib.hid (World.ownsRow_nil _ _ _ _), Lib.hid (Below.refl _ _)⟩
  case round =>
    obtain ⟨k, out, m, hk, hgg, rfl, hmk, hlen, hout, ho, hb⟩ := hrel
    by_cases hlt : k < n
    · obtain ⟨b, off, x, e9, hbB, hz, hc⟩ := (hr'.out.below hb.out (by omega)).getKw hlt
      simp only [Option.some.injEq, Addr.mk.injEq, and_true] at e9
      obtain ⟨rfl, rfl⟩ := e9
      have hts := Lib.hid (filter_snoc hz)
      clear hz
      cases x with
      | none =>
        have H : Hid (out = (q.src.take (k + 1)).filterMap id) := Lib.hid (by rw [hts.out, ← hout.out]; simp)
        obtain ⟨c0, c1, c2, c3, c4, c5, c6⟩ : wr.cell? ⟨gs, 0 + k * 7, none⟩ = some (.bool false) ∧ wr.cell? ⟨gs, 0 + k * 7 + 1, none⟩ = some (.int .i64 0) ∧ wr.cell? ⟨gs, 0 + k * 7 + 2, none⟩ = some (.int .i64 0) ∧ wr.cell? ⟨gs, 0 + k * 7 + 3, none⟩ = some (.int .i64 0) ∧ wr.cell? ⟨gs, 0 + k * 7 + 4, none⟩ = some (.int .i64 0) ∧ wr.cell? ⟨gs, 0 + k * 7 + 5, none⟩ = some (.int .i64 0) ∧ wr.cell? ⟨gs, 0 + k * 7 + 6, none⟩ = some (.int .i64 0) := ⟨hc 0 _ rfl, hc 1 _ rfl, hc 2 _ rfl, hc 3 _ rfl, hc 4 _ rfl, hc 5 _ rfl, hc 6 _ rfl⟩
        simp only [Nat.zero_add] at c0 c1 c2 c3 c4 c5 c6
        clear hc
        go_wp2
        go_roundg (n - (k + 1))
        case rel => exact ⟨k + 1, out, m, by omega, Nat.le_refl _, by go_num, by omega, hlen, H, Lib.hid (ho.out.alloc _), Lib.hid (below_alloc hb.out _)⟩
        case measure => omega
      | some y =>
        have H : Hid (out ++ [y] = (q.src.take (k + 1)).filterMap id) := Lib.hid (by rw [hts.out, ← hout.out]; rfl)
        obtain ⟨c0, c1, c2, c3, c4, c5, c6⟩ : wr.cell? ⟨gs, 0 + k * 7, none⟩ = some (.bool true) ∧ wr.cell? ⟨gs, 0 + k * 7 + 1, none⟩ = some (.int .i64 y.a) ∧ wr.cell? ⟨gs, 0 + k * 7 + 2, none⟩ = some (.int .i64 y.lo) ∧ wr.cell? ⟨gs, 0 + k * 7 + 3, none⟩ = some (.int .i64 y.hi) ∧ wr.cell? ⟨gs, 0 + k * 7 + 4, none⟩ = some (.int .i64 y.ppb) ∧ wr.cell? ⟨gs, 0 + k * 7 + 5, none⟩ = some (.int .i64 y.learnt) ∧ wr.cell? ⟨gs, 0 + k * 7 + 6, none⟩ = some (.int .i64 y.refused) := ⟨hc 0 _ rfl, hc 1 _ rfl, hc 2 _ rfl, hc 3 _ rfl, hc 4 _ rfl, hc 5 _ rfl, hc 6 _ rfl⟩
        simp only [Nat.zero_add] at c0 c1 c2 c3 c4 c5 c6
        clear hc
        have hsz : (m + 1) * 48 ≤ 140737488355328 := by omega
        go_wp2_with (at_builtin; refine wpList_append_own _ rfl (.tmp 18) (.tmp 21) 62 rfl w.heap.size 64 i0 _ 6 48 Tryz.underlying62 hi hz0 hz1 hz2 rfl (by decide) _ m (out.flatMap encKn) rfl ?c0 _ 1 1 [.int .i64 y.a, .int .i64 y.lo, .int .i64 y.hi, .int .i64 y.ppb, .int .i64 y.learnt, .int .i64 y.refused] rfl rfl ?c1 ?c2 ?c3 hsz ?c5 ?_)
        case c0 => exact (ho.out.alloc _).alloc _
        case c1 => exact World.news_of_block (cs := #[.int .i64 y.a, .int .i64 y.lo, .int .i64 y.hi, .int .i64 y.ppb, .int .i64 y.learnt, .int .i64 y.refused]) (t := 64) (fr := (0, 0)) (new_at (by simp))
        case c2 => simp [Value.oneCell']
        case c3 => unfold maxLen; omega
        case c5 => have := hb.out.size; simp; omega
        intro v2 w3 hown hgrow _
        have hb3 : Below w.heap.size w w3 := by
          refine Below.grown ?_ hgrow (by have := hb.out.size; simp; omega) (fun j hj => ?_)
          · repeat (with_reducible first | exact hb.out | refine below_alloc ?_ _)
          · exact (ho.out.lt j hj).1
        have hown3 : w3.ownsRow w.heap.size 64 6 v2 (m + 1) ((out ++ [y]).flatMap encKn) := by
          rw [List.flatMap_append]; exact hown
        have hl3 := Lib.hid (show (out ++ [y]).length = m + 1 by rw [List.length_append, hlen.out]; rfl)
        have K1 := Lib.hid hb3
        have K2 := Lib.hid hown3
        clear hown hgrow hb3 hown3
        go_wp2
        go_roundg (n - (k + 1))
        case rel => exact ⟨k + 1, _, m + 1, by omega, Nat.le_refl _, by go_num, by omega, hl3, H, K2, K1⟩
        case measure => omega
    · obtain rfl : k = n := by omega
      have hout' : out = q.src.filterMap id := by rw [hout.out, List.take_of_length_le (by omega)]
      obtain ⟨A2, c2, rfl, hrd⟩ := RdL.of_own (enc := encKn) (k := 6) (n := m) (fun _ => rfl) ho.out hlen.out (by omega)
      have M := Lib.hid fun (W : World) (hW : Below wr.heap.size wr W) => Merge_ok A2 m c2 out q.r s.liars W wr.heap.size hW.size (hrd.below hW (Nat.le_refl _)) (by omega) (fun y hy => by
        rw [hout', List.mem_filterMap] at hy
        obtain ⟨z, hz, rfl⟩ := hy
        exact ((hq'.out.src _ hz).at hs'.out.p0 hs'.out.p1 (by omega) (Int.le_refl _) (by have := hq'.out.r1; omega)).1) hs'.out.f0 (by have := hs'.out.f1; omega)
      rw [show nowL q.r out = q.nows by rw [hout']; rfl] at M
      have hag := agree_bounds q.nows s.liars _ _ (nows_ok hq'.out hs'.out hj)
      have HO := Lib.hid fun lo hi W h hB => own_take s A A' c c' (.slice (some ⟨gs, 0, none⟩) k cap) q g T j lo hi W hj hs'.out hq'.out h hB
      have HF := Lib.hid (show q.merged s = if (agreeM q.nows s.liars).2.2 = 0 then { q with own := takeM q.own q.r (agreeM q.nows s.liars).1 (agreeM q.nows s.liars).2.1 s.ppb } else q from rfl)
      generalize agreeM q.nows s.liars = gm at *
      have hag' := Lib.hid hag
      have HW := Lib.hid (HB.out.keep hb.out)
      have OW := Lib.hid (show Only g g w wr from .of hb.out)
      have hgr := HW.out.lt
      have S8 : wr.cell? ⟨g, 8, none⟩ = some (.int .i64 q.r) := HW.out.list_cell 8
      have S3 : wr.cell? ⟨g, 3, none⟩ = some (.int .i64 s.liars) := HW.out.list_cell 3
      have HS := Lib.hid (show wr.cell? ⟨g, 8, none⟩ = some (.int .i64 q.r) ∧ wr.cell? ⟨g, 3, none⟩ = some (.int .i64 s.liars) from ⟨S8, S3⟩)
      have n5 := World.new_ne wr _ S8
      dsimp only at n5
      clear hag hrd ho hb hout hlen hout' k9 hr'
      dsimp only [v3] at M
      go_wp2_with fail
      go_region_held3 (fun w' => w'.cell? ⟨g, 8, none⟩ = some (.int .i64 q.r) ∧ w'.cell? ⟨g, 3, none⟩ = some (.int .i64 s.liars)) (first | (exact held2 HS.out hB) | go_keep) (first | (go_at_call 62; refine (M.out wr.drew (below_drew (Below.refl _ _))).mono ?_; rintro e w1 ⟨rfl, hb⟩; have hB := below_then (below_drew (Below.refl _ _)) hb; have hS1 := held2 HS.out hB; have n8 := World.new_ne w1 _ hS1.1; dsimp only at n8) | (go_at_call 62; refine (M.out (wr.alloc _).drew (below_drew (below_alloc (Below.refl _ _) _))).mono ?_; rintro e w1 ⟨rfl, hb⟩; have hB := below_then (below_drew (below_alloc (Below.refl _ _) _)) hb; have hS1 := held2 HS.out hB; have HQ := (Blk.new wr _ _).drew.keep hb; obtain ⟨y0, y1, v0, v1⟩ := blk2 HQ; replace HQ := Lib.hid HQ))
      · have HB1 := HW.out.keep hB
        generalize hWc : (w1.alloc (.cells #[.int .i64 gm.1, .int .i64 gm.2.1] 51)) = Wc
        have BC : Below w1.heap.size w1 Wc := by rw [← hWc]; exact below_alloc (Below.refl _ _) _
        have HC := Lib.hid (HB1.keep BC)
        have OC := Lib.hid ((OW.out.then hB).then BC)
        have K5 := Lib.hid (show Blk Wc w1.heap.size 51 #[.int .i64 gm.1, .int .i64 gm.2.1] by rw [← hWc]; exact Blk.new _ _ _)
        have hg5 : g < w1.heap.size := HB1.lt
        clear hWc BC HB1 hb hB S8 S3 hS1 n8
        cases hc0 : (gm.2.2 == 0)
        · have hc : ¬ gm.2.2 = 0 := by simpa using hc0
          have K : Hid (Blk Wc g T (plC s A c A' c' (.slice (some ⟨gs, 0, none⟩) k cap) (q.merged s)).toArray) := Lib.hid (by rw [HF.out, if_neg hc]; exact HC.out)
          go_wp2
          go_end0
          exact ⟨rfl, K.out, OC.out⟩
        · have hc : gm.2.2 = 0 := by simpa using hc0
          obtain ⟨a0, a1, a2⟩ := hag'.out hc
          have T1 := Lib.hid fun W (h : Blk W g T (plC s A c A' c' (.slice (some ⟨gs, 0, none⟩) k cap) q).toArray) => HO.out gm.1 gm.2.1 W (okS_mk (by omega) a1 (by omega)) h
          have HF' := Lib.hid (show q.merged s = { q with own := takeM q.own q.r gm.1 gm.2.1 s.ppb } by rw [HF.out, if_pos hc])
          have b8 : Wc.cell? ⟨g, 8, none⟩ = some (.int .i64 q.r) := HC.out.list_cell 8
          have b2 : Wc.cell? ⟨g, 2, none⟩ = some (.int .i64 s.ppb) := HC.out.list_cell 2
          obtain ⟨d0, d1, _, _⟩ := blk2 K5.out
          have hgc := HC.out.lt
          have hkc := K5.out.lt
          have HS4 := Lib.hid (show Wc.cell? ⟨g, 8, none⟩ = some (.int .i64 q.r) ∧ Wc.cell? ⟨g, 2, none⟩ = some (.int .i64 s.ppb) ∧ Wc.cell? ⟨w1.heap.size, 0, none⟩ = some (.int .i64 gm.1) ∧ Wc.cell? ⟨w1.heap.size, 1, none⟩ = some (.int .i64 gm.2.1) from ⟨b8, b2, d0, d1⟩)
          have nk : w1.heap.size ≠ g := by omega
          have nk' := Lib.hid nk
          clear a0 a1 a2
          go_wp2_with fail
          go_region_held3 (fun w' => w'.cell? ⟨g, 8, none⟩ = some (.int .i64 q.r) ∧ w'.cell? ⟨g, 2, none⟩ = some (.int .i64 s.ppb) ∧ w'.cell? ⟨w1.heap.size, 0, none⟩ = some (.int .i64 gm.1) ∧ w'.cell? ⟨w1.heap.size, 1, none⟩ = some (.int .i64 gm.2.1)) (first | (exact hS9) | go_keep) (first | (go_at_call 33; refine (T1.out Wc.drew HC.out.drew).mono ?_; rintro e w9 ⟨rfl, hb9, ho9⟩; have hS9 : w9.cell? ⟨g, 8, none⟩ = some (.int .i64 q.r) ∧ w9.cell? ⟨g, 2, none⟩ = some (.int .i64 s.ppb) ∧ w9.cell? ⟨w1.heap.size, 0, none⟩ = some (.int .i64 gm.1) ∧ w9.cell? ⟨w1.heap.size, 1, none⟩ = some (.int .i64 gm.2.1) := ⟨hb9.list_cell 8, hb9.list_cell 2, (blk2 (K5.out.drew.keepO ho9 nk'.out nk'.out)).1, (blk2 (K5.out.drew.keepO ho9 nk'.out nk'.out)).2.1⟩; replace hb9 := Lib.hid hb9; replace ho9 := Lib.hid ho9))
          all_goals go_wp2
          all_goals go_end0
          all_goals exact ⟨rfl, by rw [HF'.out]; exact hb9.out, OC.out.trans ((Only.refl _ _ _).drew.trans ho9.out)⟩
      · have HB1 := HW.out.keep hB
        have n7' : g ≠ wr.heap.size := Ne.symm n5
        generalize hWc : ((w1.setCell ⟨wr.heap.size, 0, none⟩ (.int .i64 gm.1)).setCell ⟨wr.heap.size, 1, none⟩ (.int .i64 gm.2.1)) = Wc
        have HC := Lib.hid (show Blk Wc g T _ by rw [← hWc]; exact (HB1.far (p := ⟨_, _, _⟩) n7' _).far (p := ⟨_, _, _⟩) n7' _)
        have OC := Lib.hid (show Only g g w Wc by rw [← hWc]; exact ((OW.out.then hB).setNew (by have := OW.out.size; omega) _).setNew (by have := OW.out.size; omega) _)
        have K5 := Lib.hid (show Blk Wc wr.heap.size 51 #[.int .i64 gm.1, .int .i64 gm.2.1] by rw [← hWc]; exact (HQ.out.set 0 _).set 1 _)
        clear hWc HB1 hb hB S8 S3 hS1 y0 y1 v0 v1 HQ
        cases hc0 : (gm.2.2 == 0)
        · have hc : ¬ gm.2.2 = 0 := by simpa using hc0
          have K : Hid (Blk Wc g T (plC s A c A' c' (.slice (some ⟨gs, 0, none⟩) k cap) (q.merged s)).toArray) := Lib.hid (by rw [HF.out, if_neg hc]; exact HC.out)
          go_wp2
          go_end0
          exact ⟨rfl, K.out, OC.out⟩
        · have hc : gm.2.2 = 0 := by simpa using hc0
          obtain ⟨a0, a1, a2⟩ := hag'.out hc
          have T1 := Lib.hid fun W (h : Blk W g T (plC s A c A' c' (.slice (some ⟨gs, 0, none⟩) k cap) q).toArray) => HO.out gm.1 gm.2.1 W (okS_mk (by omega) a1 (by omega)) h
          have HF' := Lib.hid (show q.merged s = { q with own := takeM q.own q.r gm.1 gm.2.1 s.ppb } by rw [HF.out, if_pos hc])
          have b8 : Wc.cell? ⟨g, 8, none⟩ = some (.int .i64 q.r) := HC.out.list_cell 8
          have b2 : Wc.cell? ⟨g, 2, none⟩ = some (.int .i64 s.ppb) := HC.out.list_cell 2
          obtain ⟨d0, d1, _, _⟩ := blk2 K5.out
          have hgc := HC.out.lt
          have hkc := K5.out.lt
          have HS4 := Lib.hid (show Wc.cell? ⟨g, 8, none⟩ = some (.int .i64 q.r) ∧ Wc.cell? ⟨g, 2, none⟩ = some (.int .i64 s.ppb) ∧ Wc.cell? ⟨wr.heap.size, 0, none⟩ = some (.int .i64 gm.1) ∧ Wc.cell? ⟨wr.heap.size, 1, none⟩ = some (.int .i64 gm.2.1) from ⟨b8, b2, d0, d1⟩)
          have nk : wr.heap.size ≠ g := by omega
          have nk' := Lib.hid nk
          clear a0 a1 a2
          go_wp2_with fail
          go_region_held3 (fun w' => w'.cell? ⟨g, 8, none⟩ = some (.int .i64 q.r) ∧ w'.cell? ⟨g, 2, none⟩ = some (.int .i64 s.ppb) ∧ w'.cell? ⟨wr.heap.size, 0, none⟩ = some (.int .i64 gm.1) ∧ w'.cell? ⟨wr.heap.size, 1, none⟩ = some (.int .i64 gm.2.1)) (first | (exact hS9) | go_keep) (first | (go_at_call 33; refine (T1.out Wc.drew HC.out.drew).mono ?_; rintro e w9 ⟨rfl, hb9, ho9⟩; have hS9 : w9.cell? ⟨g, 8, none⟩ = some (.int .i64 q.r) ∧ w9.cell? ⟨g, 2, none⟩ = some (.int .i64 s.ppb) ∧ w9.cell? ⟨wr.heap.size, 0, none⟩ = some (.int .i64 gm.1) ∧ w9.cell? ⟨wr.heap.size, 1, none⟩ = some (.int .i64 gm.2.1) := ⟨hb9.list_cell 8, hb9.list_cell 2, (blk2 (K5.out.drew.keepO ho9 nk'.out nk'.out)).1, (blk2 (K5.out.drew.keepO ho9 nk'.out nk'.out)).2.1⟩; replace hb9 := Lib.hid hb9; replace ho9 := Lib.hid ho9))
          all_goals go_wp2
          all_goals go_end0
          all_goals exact ⟨rfl, by rw [HF'.out]; exact hb9.out, OC.out.trans ((Only.refl _ _ _).drew.trans ho9.out)⟩
end Go.Proofs.YtnafhblioabkgaaGreat
