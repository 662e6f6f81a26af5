/- sweep.events: the beginnings of spans and the instants behind their ends, sorted. -/
import Derived.Test.YtnafhblioabkgaaGreatFind
import Derived.Test.YtnafhblioabkgaaGreatSort
import Derived.Test.YtnafhblioabkgaaGreatSweep
import Derived.Deep.AppendLies
import Derived.OwnWalk
namespace Go.Proofs.YtnafhblioabkgaaGreat
open Go.RowKit

theorem events1 (x y : Int × Int) (W : World) : Calls Tryz.prog 135 #[.agg #[.int .i64 x.1, .int .i64 x.2], .agg #[.int .i64 y.1, .int .i64 y.2]] W fun e w' => e = .returned (.int .i64 (Lib.compareInt x.1 y.1)) ∧ ∃ q os', w' = Sort.grow (W.drewN q) os' := by
  have hcon := fun W' => Tryz.cmp_Compare_int x.1 y.1 W'
  generalize Lib.compareInt x.1 y.1 = r at hcon ⊢
  have H := Lib.hid hcon
  clear hcon
  go_enter Tryz.func135, Tryz.ntmps135
  go_wp2_with (go_at_call 136; refine (H.out _).mono ?_; rintro e w' ⟨rfl, rfl⟩)
  go_ret
  exact ⟨rfl, 0, _, by rw [Sort.alloc_eq_grow, Sort.alloc_eq_grow, Sort.grow_grow]; rfl⟩

theorem ltEv (x y : Int × Int) : ltOf (fun x y : Int × Int => Lib.compareInt x.1 y.1) x y = decide (x.1 < y.1) := by
  unfold ltOf Lib.compareInt
  by_cases h1 : x.1 < y.1
  · simp [h1]
  · by_cases h2 : y.1 < x.1 <;> simp [h1, h2]
theorem swoEv : Sort.SWO (ltOf fun x y : Int × Int => Lib.compareInt x.1 y.1) where
  irrefl x := by rw [ltEv]; simp
  trans x y z h1 h2 := by rw [ltEv] at *; simp at *; omega
  ntrans x y z h1 h2 := by rw [ltEv] at *; simp at *; omega

theorem sortK_grown {enc : Int × Int → List Value} {w : World} {g n : Nat} {os : Array Obj} (d : Array (Int × Int)) : w.grownBy (sortWorldK enc 2 w g 0 n d os) (some g) := by
  refine ⟨rfl, rfl, rfl, by simp [sortWorldK, Sort.putRowK], fun k hk hne => ?_⟩
  unfold sortWorldK
  rw [Sort.heap_grow_old _ _ (by simpa [Sort.putRowK] using hk)]
  have : g ≠ k := fun e => hne (by rw [e])
  simp [Sort.putRowK, Sort.putRow, Sort.mapBlock, Sort.ahead, Array.getElem?_modify, this]
theorem sortK_reads {w : World} {g n m : Nat} {os : Array Obj} {d d' : Array (Int × Int)} (h : Sort.HoldsK encSp 2 w g 0 d) (hs : d'.size = d.size) (hg : g < w.heap.size) (hm : d.size = m) (hb : m ≤ 4611686018427387904) :
    RdL encSp 2 (sortWorldK encSp 2 w g 0 n d' os) (sortWorldK encSp 2 w g 0 n d' os).heap.size (some ⟨g, 0, none⟩) m d'.toList := by
  have h1 : Sort.HoldsK encSp 2 (sortWorldK encSp 2 w g 0 n d' os) g 0 d' :=
    Sort.holdsK_grow encSp 2 _ os g 0 d' (by simpa [Sort.putRowK] using hg) (Sort.holdsK_putRowK encSp 2 _ g 0 d d' (Sort.holdsK_ahead encSp 2 w n g 0 d h) hs)
  refine ⟨by simp [hs, hm], hb, fun _ => ⟨g, 0, rfl, by simp [sortWorldK, Sort.putRowK]; omega, fun i x hx j u hu => ?_⟩⟩
  have hi : i < d'.size := by
    have := (List.getElem?_eq_some_iff.1 hx).1
    simpa using this
  have hj : j < 2 := by
    have := (List.getElem?_eq_some_iff.1 hu).1
    simpa using this
  rw [(h1.cell hi hj).1]
  have ex : d'[i]! = x := by
    rw [getElem!_pos d' i hi]
    have := (List.getElem?_eq_some_iff.1 hx).2
    simpa using this
  rw [ex]
  have := (List.getElem?_eq_some_iff.1 hu).2
  rw [List.getElem!_eq_getElem?_getD, hu]
  rfl
/-- What was appended two cells an element reads as the list. -/
theorem ownK_holds {w : World} {base : Nat} {e : TypeId} {g n cap : Nat} {zs : List (Int × Int)} (h : w.ownsRow base e 2 (.slice (some ⟨g, 0, none⟩) n cap) n (zs.flatMap encSp)) (hn : zs.length = n) : Sort.HoldsK encSp 2 w g 0 zs.toArray := by
  intro j hj
  have hj' : j < n * 2 := by simpa [Sort.size_flatK, hn] using hj
  rw [Nat.zero_add, h.cellAt j hj', h.frozenAt j]
  refine ⟨?_, rfl⟩
  have hg := Sort.get_flatK encSp 2 zs.toArray j (by simpa [hn] using hj')
  have key : ∀ (l : List (Int × Int)) (k : Nat), k < l.length * 2 → (l.flatMap encSp)[k]? = some ((encSp l.toArray[k / 2]!)[k % 2]!) := by
    intro l
    induction l with
    | nil => intro k hk; simp at hk
    | cons x r ih =>
      intro k hk
      match k with
      | 0 => simp
      | 1 => simp
      | k + 2 =>
        have e1 : (k + 2) / 2 = k / 2 + 1 := by omega
        have e2 : (k + 2) % 2 = k % 2 := by omega
        have := ih k (by simp at hk; omega)
        rw [e1, e2]
        simpa using this
  rw [key zs j (by omega), ← hg]
  rfl

def EvPost (l : List (Int × Int)) (n : Nat) (w : World) (e : Ending) (w' : World) : Prop :=
  ∃ (b cap : Nat) (es : List (Int × Int)), e = .returned (.slice (some ⟨b, 0, none⟩) (n + n) cap) ∧ es.Perm (Sw.evs l) ∧ es.Pairwise (fun x y => x.1 ≤ y.1) ∧ RdL encSp 2 w' w'.heap.size (some ⟨b, 0, none⟩) (n + n) es ∧ Below w.heap.size w w'
theorem evs_snoc (l : List (Int × Int)) (x : Int × Int) : Sw.evs (l ++ [x]) = Sw.evs l ++ [(x.1, 1), (x.2 + 1, -1)] := by simp [Sw.evs]
theorem evs_len (l : List (Int × Int)) : (Sw.evs l).length = l.length + l.length := by
  induction l with
  | nil => rfl
  | cons x r ih => rw [show Sw.evs (x :: r) = [(x.1, 1), (x.2 + 1, -1)] ++ Sw.evs r from rfl, List.length_append, ih]; simp; omega
theorem infoEv : (Tryz.prog.info? 165).map (fun i => (i.zero, i.size, i.bytes)) = some (some (.agg #[.int .i64 0, .int .i64 0]), 2, 16) := by kernel_rfl

set_option maxHeartbeats 2000000 in
set_option maxRecDepth 100000 in
theorem events_ok (A : Option Addr) (n c : Nat) (l : List (Int × Int)) (w : World) (B : Nat) (hB : B ≤ w.heap.size) (hr : RdL encSp 2 w B A n l) (hn : 0 < n) (hn' : n ≤ 64) (hv : ∀ s ∈ l, okS s.1 s.2 = true) :
    Calls Tryz.prog 133 #[.slice A n c] w (EvPost l n w) := by
  obtain ⟨i0, hi, hz0, hz1, hz2⟩ := info_parts infoEv
  go_enter Tryz.func133, Tryz.ntmps133
  go_wp2
  go_loopg [3, 5, 8] n (fun gg v _ s8 wr => ∃ k : Nat, k ≤ n ∧ n - k ≤ gg ∧ s8 = .int .i64 k ∧ Hid (wr.ownsRow w.heap.size 165 2 v (k + k) ((Sw.evs (l.take k)).flatMap encSp)) ∧ Hid (Below w.heap.size w wr))
  case atStart => exact ⟨0, Nat.zero_le _, by omega, rfl, Lib.hid (World.ownsRow_nil _ _ _ _), Lib.hid (Below.refl _ _)⟩
  case round =>
    obtain ⟨k, hk, hg, rfl, ho, hb⟩ := hrel
    by_cases hlt : k < n
    · obtain ⟨b, off, x, rfl, hbB, hz, hd, c0, c1⟩ := (hr.below hb.out hB).getSp hlt
      have hx := okS_iff.1 (hv x (List.mem_of_getElem? hz))
      have hts : l.take (k + 1) = l.take k ++ [x] := by
        have hl := hr.len
        rw [List.take_add_one, hz]; rfl
      have hbs := hb.out.size
      clear hr hv hd
      have hsz : (k + k + 2) * 16 ≤ 140737488355328 := by omega
      go_wp2_with (at_builtin; refine wpList_append_own _ rfl (.tmp 12) (.tmp 20) 162 rfl w.heap.size 165 i0 _ 2 16 Tryz.underlying162 hi hz0 hz1 hz2 rfl (by decide) _ (k + k) _ rfl ((ho.out.alloc _).alloc _) ⟨wr.heap.size + 1, 0, none⟩ 2 2 [.int .i64 x.1, .int .i64 1, .int .i64 (x.2 + 1), .int .i64 (-1)] rfl rfl ?c1 ?c2 ?c3 hsz ?c5 ?_)
      case c1 => exact World.news_of_block (fr := (0, 0)) (Blk.new1 _ _ _ _)
      case c2 => simp [Value.oneCell']
      case c3 => unfold maxLen; omega
      case c5 => simp; omega
      intro v1 w1 hown hgrow _
      have hb1 : Below w.heap.size w w1 := (below_alloc (below_alloc hb.out _) _).grown hgrow (by simp; omega) (fun j hj => (ho.out.lt j hj).1)
      have hown2 : w1.ownsRow w.heap.size 165 2 v1 (k + 1 + (k + 1)) ((Sw.evs (l.take (k + 1))).flatMap encSp) := by
        rw [hts, evs_snoc, List.flatMap_append, show k + 1 + (k + 1) = k + k + 2 from by omega]
        exact hown
      have H1 := Lib.hid hb1
      have H2 := Lib.hid hown2
      clear hown hgrow hb1 hown2 hts
      go_wp2
      go_roundg (n - (k + 1))
      case rel => exact ⟨k + 1, by omega, Nat.le_refl _, by go_num, H2, H1⟩
      case measure => omega
    · obtain rfl : n = k := by omega
      have hl := hr.len
      obtain ⟨g, cap, rfl, hbg, hgl⟩ := ho.out.form (show 0 < n + n by omega)
      have ht : l.take n = l := by rw [← hl]; exact List.take_length
      have hown := ho.out
      rw [ht] at hown
      have hlen := evs_len l
      rw [hl] at hlen
      have hH := ownK_holds hown hlen
      have eg : ∀ args w, (callFunc 135 args).run Tryz.prog w = .ok (.enter 135 args) w := enters_of Tryz.func135 (by kernel_rfl) rfl
      have S := AnyQ.slices_SortFunc Tryz.sortEv 2 Tryz.isAgg165 Tryz.sizeOf165 encSp (fun _ => rfl) (fun x v hv => by simp [encSp] at hv; rcases hv with rfl | rfl <;> rfl) (fun x y => Lib.compareInt x.1 y.1) swoEv 135 #[] g 0 cap (Sw.evs l).toArray wr eg (fun _ _ _ _ x y => events1 x y _) hH hgl (by simp [hlen]; omega)
      change Calls Tryz.prog 134 _ _ _ at S
      have hsz : (Sw.evs l).toArray.size = n + n := by simp [hlen]
      rw [hsz] at S
      have S' := Lib.hid S
      clear S eg hr hv ho hown hl ht
      go_wp2_with fail
      refine (S'.out).mono ?_
      rintro e w1 ⟨rfl, d', m, os, hp, hs, rfl⟩
      have hsd : d'.size = (Sw.evs l).toArray.size := hp.1
      have hR := sortK_reads (m := n + n) (n := m) (os := os) hH hsd hgl hsz (by omega)
      have hBl : Below w.heap.size w (sortWorldK encSp 2 wr g 0 m d' os) := hb.out.grown (sortK_grown d') hb.out.size (fun j hj => by cases hj; exact hbg)
      have hperm : d'.toList.Perm (Sw.evs l) := by
        have := hp.2.2
        rw [show (d'.extract 0 (n + n)) = d' from by rw [← hsz, ← hsd]; simp, show (Sw.evs l).toArray.extract 0 (n + n) = (Sw.evs l).toArray from by rw [← hsz]; simp] at this
        simpa using this
      have hpair : d'.toList.Pairwise (fun x y => x.1 ≤ y.1) := by
        rw [List.pairwise_iff_getElem]
        intro i j hi hj hij
        have h1 := hs i j (Nat.zero_le _) hij (by simp at hj; omega)
        rw [ltEv] at h1
        simp at hi hj
        rw [getElem!_pos d' i hi, getElem!_pos d' j hj] at h1
        simp at h1
        simpa using h1
      have K : EvPost l n w (.returned (.slice (some ⟨g, 0, none⟩) (n + n) cap)) (sortWorldK encSp 2 wr g 0 m d' os) := ⟨g, cap, _, rfl, hperm, hpair, hR, hBl⟩
      have K' := Lib.hid K
      clear K hp hs hsd hR hBl hperm hpair hH hsz hlen S'
      generalize sortWorldK encSp 2 wr g 0 m d' os = w2 at *
      go_wp2
      go_ret
      exact K'.out
end Go.Proofs.YtnafhblioabkgaaGreat
