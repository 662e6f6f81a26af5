/- The statements' own small functions: light, copied, known. -/
import Derived.Test.YtnafhblioabkgaaGreatRPut
import Derived.Test.YtnafhblioabkgaaGreatRun
namespace Go.Proofs.YtnafhblioabkgaaGreat
open Go.RowKit

theorem light_ok (a0 a1 a2 a3 a4 : Value) (A A' : Option Addr) (n m c c' : Nat) (w : World) :
    Calls Tryz.prog 5 #[.agg #[a0, a1, a2, a3, a4, .slice A n c, .slice A' m c']] w fun e w' => e = .returned (.bool (decide (n ≤ 20) && decide (m ≤ 65))) ∧ Below w.heap.size w w' := by
  by_cases h1 : n ≤ 20
  · by_cases h2 : m ≤ 65
    · have t1 : decide ((n : Int) ≤ 20) = true := by simp; omega
      have t2 : decide ((m : Int) ≤ 65) = true := by simp; omega
      go_enter Tryz.func5, Tryz.ntmps5
      go_wp2
      go_ret
      exact ⟨ret_bool (by simp [h1, h2]), below_alloc (Below.refl _ _) _⟩
    · have t1 : decide ((n : Int) ≤ 20) = true := by simp; omega
      have t2 : decide ((m : Int) ≤ 65) = false := by simp; omega
      go_enter Tryz.func5, Tryz.ntmps5
      go_wp2
      go_ret
      exact ⟨ret_bool (by simp [h2]), below_alloc (Below.refl _ _) _⟩
  · have t1 : decide ((n : Int) ≤ 20) = false := by simp; omega
    go_enter Tryz.func5, Tryz.ntmps5
    go_wp2
    go_ret
    exact ⟨ret_bool (by simp [h1]), below_alloc (Below.refl _ _) _⟩

theorem wpList_append_any {P : Program} {w : World} {ops : Array Oper} {rest : List Oper} {o : Oper} {a : Act} {Q : Exit → Act → World → Prop} (hgd : o.guard = none) (s x : Operand) (t : TypeId)
    (ho : o.op = .call { callee := .builtin .append, args := #[s, x], argTypes := #[t, t] })
    (base : Nat) (e : TypeId) (i : TypeInfo) (z : Value) (size bytes : Nat) (ht : P.underlying t = some (.slice e)) (hi : P.info? e = some i) (hz : i.zero = some z)
    (hsize : i.size = size) (hby : i.bytes = bytes) (hzs : z.cells.size = size) (hsz : 0 < size)
    (v : Value) (n : Nat) (xs : List Value) (hs : a.eval s = v) (hown : w.ownsRow base e size v n xs)
    (A : Option Addr) (m c : Nat) (news : List Value) (hx : a.eval x = .slice A m c) (hl : news.length = m * size) (hA : 0 < m → ∃ a, A = some a ∧ ∀ j u, news[j]? = some u → w.cell? (a.add j) = some u) (h1 : ∀ u ∈ news, u.oneCell' = true)
    (h63 : n + m ≤ maxLen) (hbytes : (n + m) * bytes ≤ 140737488355328) (hbase : base ≤ w.heap.size)
    (h : ∀ v' w', w'.ownsRow base e size v' (n + m) (xs ++ news) → w.grownBy w' v.ownBlock → wpList P ops Q rest (a.put o.dst v') w') :
    wpList P ops Q (o :: rest) a w := by
  refine wpList_plain hgd fun K hK => ?_
  obtain ⟨v', w', hr, h2, h3⟩ := run_append_any (P := P) w t o.type base e i z size bytes ht hi hz hsize hby hzs hsz v n xs hown A m c news hl hA h1 h63 hbytes hbase
  unfold Oper.wp execOp
  simp only [ho, resolve, invoke, builtin, Sem.run_bind, Sem.run_pure, Result.andThen_ok, List.map_toArray, List.map_cons, List.map_nil, hs, hx, hr]
  exact hK _ _ (h v' w' h2 h3)
/-- The cells of a list that is read. -/
theorem RdL.news {α : Type} {enc : α → List Value} {k : Nat} (hk : ∀ x, (enc x).length = k) (h0 : 0 < k) {w : World} {B n : Nat} {A : Option Addr} {l : List α} (h : RdL enc k w B A n l) (hn : 0 < n) : ∃ a, A = some a ∧ ∀ j u, (l.flatMap enc)[j]? = some u → w.cell? (a.add j) = some u := by
  obtain ⟨b, off, e, hb, hc⟩ := h.at' hn
  refine ⟨_, e, fun j u hu => ?_⟩
  have hl : ∀ l : List α, (l.flatMap enc).length = l.length * k := by
    intro l
    induction l with
    | nil => simp
    | cons x r ih => rw [List.flatMap_cons, List.length_append, ih, hk, List.length_cons, Nat.succ_mul]; omega
  have hj : j < l.length * k := by rw [← hl]; exact (List.getElem?_eq_some_iff.1 hu).1
  have hi : j / k < l.length := Nat.div_lt_of_lt_mul (by rw [Nat.mul_comm]; exact hj)
  have hmod : j / k * k + j % k = j := by rw [Nat.mul_comm]; exact Nat.div_add_mod j k
  have h2 := flat_get hk l (j / k) (l[j / k]) (j % k) (List.getElem?_eq_getElem hi) (Nat.mod_lt _ h0)
  rw [hmod, hu] at h2
  have h3 := hc (j / k) (l[j / k]) (List.getElem?_eq_getElem hi) (j % k) u h2.symm
  have hadd : (⟨b, off, none⟩ : Addr).add j = ⟨b, off + j, none⟩ := by unfold Addr.add; split <;> simp_all
  rw [hadd]
  rw [Nat.add_assoc, hmod] at h3
  exact h3
theorem flat_len {α : Type} {enc : α → List Value} {k : Nat} (hk : ∀ x, (enc x).length = k) (l : List α) : (l.flatMap enc).length = l.length * k := by
  induction l with
  | nil => simp
  | cons x r ih => rw [List.flatMap_cons, List.length_append, ih, hk, List.length_cons, Nat.succ_mul]; omega
theorem oneStp (l : List Stp) : ∀ u ∈ l.flatMap encStp, u.oneCell' = true := by
  intro u hu
  rw [List.mem_flatMap] at hu
  obtain ⟨x, _, hx⟩ := hu
  simp only [encStp, List.mem_cons, List.not_mem_nil, or_false] at hx
  rcases hx with h | h | h | h | h | h | h | h | h | h | h <;> subst h <;> rfl
theorem infoStp : (Tryz.prog.info? 45).map (fun i => (i.zero, i.size, i.bytes)) = some (some (vStp ⟨0, 0, 0, 0, 0, 0, 0, 0, 0, 0, 0⟩), 11, 88) := by kernel_rfl
theorem owns_empty {w : World} {base : Nat} {e : TypeId} {size g : Nat} (hb : base ≤ g) (hg : w.heap[g]? = some (.cells #[] e (0, 0))) : w.ownsRow base e size (.slice (some ⟨g, 0, none⟩) 0 0) 0 [] :=
  ⟨by simp, .inr ⟨g, 0, #[], rfl, hb, hg, Nat.le_refl _, Nat.zero_le _, by simp, by simp⟩⟩

theorem RdL.of_own' {α : Type} {enc : α → List Value} {k : Nat} (hk : ∀ x, (enc x).length = k) {w : World} {base : Nat} {e : TypeId} {A : Option Addr} {n c : Nat} {zs : List α} (h : w.ownsRow base e k (.slice A n c) n (zs.flatMap enc)) (hl : zs.length = n) (hb : n ≤ 4611686018427387904) : RdL enc k w w.heap.size A n zs := by
  obtain ⟨A2, c2, e, hr⟩ := RdL.of_own hk h hl hb
  cases e
  exact hr
def CopyPost (s : Sch) (w : World) (e : Ending) (w' : World) : Prop :=
  ∃ A c A' c', e = .returned (vSch s A c A' c') ∧ RdL encI 1 w' w'.heap.size A s.errs.length s.errs ∧ RdL encStp 11 w' w'.heap.size A' s.steps.length s.steps ∧ Below w.heap.size w w'
set_option maxHeartbeats 2000000 in
set_option maxRecDepth 100000 in
theorem copied_ok (s : Sch) (A A' : Option Addr) (c c' : Nat) (w : World) (B : Nat) (hB : B ≤ w.heap.size) (he : RdL encI 1 w B A s.errs.length s.errs) (hs : RdL encStp 11 w B A' s.steps.length s.steps) (hn : s.errs.length ≤ 20) (hm : s.steps.length ≤ 65) :
    Calls Tryz.prog 13 #[vSch s A c A' c'] w (CopyPost s w) := by
  obtain ⟨i0, hi, hz0, hz1, hz2⟩ := info_parts infoI
  obtain ⟨j0, hj, hw0, hw1, hw2⟩ := info_parts infoStp
  have he' := Lib.hid he
  have hs' := Lib.hid hs
  have hl1 := Lib.hid (flat_len (enc := encI) (k := 1) (fun _ => rfl) s.errs)
  have hl2 := Lib.hid (flat_len (enc := encStp) (k := 11) (fun _ => rfl) s.steps)
  generalize hP : CopyPost s w = PP at *
  have hP' := Lib.hid hP
  clear hP he hs
  go_enter Tryz.func13, Tryz.ntmps13
  dsimp only [vSch]
  generalize hnn : s.errs.length = n at *
  generalize hmm : s.steps.length = m at *
  have hnn' := Lib.hid hnn
  have hmm' := Lib.hid hmm
  clear hnn hmm
  obtain ⟨W, hW⟩ : ∃ W, W = ((w.alloc (.cells #[.int .i64 s.start, .int .i64 s.loc, .int .i64 s.ppb, .int .i64 s.liars, .int .i64 s.aim, .slice A n c, .slice A' m c'] 25)).alloc (.cells #[.int .i64 0, .int .i64 0, .int .i64 0, .int .i64 0, .int .i64 0, .slice none 0 0, .slice none 0 0] 25)).alloc (.cells #[] 3) := ⟨_, rfl⟩
  have BW := Lib.hid (show Below w.heap.size w W by rw [hW]; exact below_alloc (below_alloc (below_alloc (Below.refl _ _) _) _) _)
  have G0 := Lib.hid (show Blk W w.heap.size 25 #[.int .i64 s.start, .int .i64 s.loc, .int .i64 s.ppb, .int .i64 s.liars, .int .i64 s.aim, .slice A n c, .slice A' m c'] by rw [hW]; exact ((Blk.new _ _ _).alloc _).alloc _)
  have G1 := Lib.hid (show Blk W (w.heap.size + 1) 25 #[.int .i64 0, .int .i64 0, .int .i64 0, .int .i64 0, .int .i64 0, .slice none 0 0, .slice none 0 0] by rw [hW]; exact (Blk.new1 _ _ _ _).alloc _)
  have G2 := Lib.hid (show Blk W (w.heap.size + 2) 3 #[] by rw [hW]; exact Blk.new2 _ _ _ _ _)
  have zW : W.heap.size = w.heap.size + 3 := by rw [hW]; simp
  have hsz : (0 + n) * 8 ≤ 140737488355328 := by omega
  go_wp2_with (at_builtin; refine wpList_append_any rfl (.tmp 3) (.tmp 5) 22 rfl (w.heap.size + 2) 3 i0 _ 1 8 Tryz.underlying22 hi hz0 hz1 hz2 rfl (by decide) _ 0 [] rfl ?c0 A n c (s.errs.flatMap encI) rfl hl1.out ?cA (oneI _) ?c3 hsz ?c5 ?_)
  case c0 => rw [← hW]; exact owns_empty (Nat.le_refl _) G2.out
  case cA => intro h; rw [← hW]; exact RdL.news (enc := encI) (k := 1) (fun _ => rfl) (by decide) (he'.out.below BW.out hB) h
  case c3 => unfold maxLen; omega
  case c5 => rw [← hW]; omega
  rw [← hW]
  clear hW
  intro v1 w1 hown hgrow
  replace hown : w1.ownsRow (w.heap.size + 2) 3 1 v1 n (s.errs.flatMap encI) := by simpa using hown
  have r0 : ∀ k, (Value.slice (some ⟨w.heap.size + 2, 0, none⟩) 0 0).ownBlock = some k → k = w.heap.size + 2 := fun k hk => by simpa [Value.ownBlock] using hk.symm
  have B1 := Lib.hid (Below.grown BW.out hgrow BW.out.size (fun k hk => by have := r0 k hk; omega))
  have G0' := Lib.hid (G0.out.grown hgrow (fun k hk => by have := r0 k hk; omega))
  have G1' := Lib.hid (G1.out.grown hgrow (fun k hk => by have := r0 k hk; omega))
  have O1 := Lib.hid hown
  clear hown hgrow r0 G0 G1 G2 BW hsz
  obtain ⟨A1, c1, rfl⟩ := own_slice O1.out
  have f5 : w1.cell? ⟨w.heap.size, 5, none⟩ = some (.slice A n c) := G0'.out.cell 5
  have g5 : w1.frozen? ⟨w.heap.size, 5, none⟩ = false := G0'.out.frozen 5
  have f6 : w1.cell? ⟨w.heap.size, 6, none⟩ = some (.slice A' m c') := G0'.out.cell 6
  have y1 : w.heap.size < w1.heap.size := G0'.out.lt
  have y2 : w.heap.size + 1 < w1.heap.size := G1'.out.lt
  obtain ⟨V, hV⟩ : ∃ V, V = (w1.setCell ⟨w.heap.size, 5, none⟩ (.slice A1 n c1)).alloc (.cells #[] 45) := ⟨_, rfl⟩
  have OV := Lib.hid (show Only w.heap.size (w.heap.size + 1) w1 V by rw [hV]; exact ((Only.refl _ _ _).set (.inl rfl) _).alloc _)
  have BV := Lib.hid (show Below w.heap.size w V by rw [hV]; exact below_alloc (below_set B1.out (Nat.le_refl _) _) _)
  have H0 := Lib.hid (show Blk V w.heap.size 25 #[.int .i64 s.start, .int .i64 s.loc, .int .i64 s.ppb, .int .i64 s.liars, .int .i64 s.aim, .slice A1 n c1, .slice A' m c'] by rw [hV]; exact (G0'.out.set 5 _).alloc _)
  have H1 := Lib.hid (G1'.out.keep (show Below w1.heap.size w1 w1 from Below.refl _ _))
  have H1 := Lib.hid (show Blk V (w.heap.size + 1) 25 #[.int .i64 0, .int .i64 0, .int .i64 0, .int .i64 0, .int .i64 0, .slice none 0 0, .slice none 0 0] by rw [hV]; exact (H1.out.far (p := ⟨_, _, _⟩) (by show w.heap.size + 1 ≠ w.heap.size; omega) _).alloc _)
  have H2 := Lib.hid (show Blk V w1.heap.size 45 #[] by rw [hV]; exact (new_at (W := w1.setCell ⟨w.heap.size, 5, none⟩ (.slice A1 n c1)) (by simp [World.setCell])))
  have O2 := Lib.hid (own_only O1.out OV.out (by omega) (by omega))
  have zV : V.heap.size = w1.heap.size + 1 := by rw [hV]; simp [World.setCell]
  have hlt1 := Lib.hid O1.out.lt
  clear G0' G1' O1 B1
  have hsz : (0 + m) * 88 ≤ 140737488355328 := by omega
  go_wp2_with (at_builtin; refine wpList_append_any rfl (.tmp 8) (.tmp 10) 23 rfl w1.heap.size 45 j0 _ 11 88 Tryz.underlying23 hj hw0 hw1 hw2 rfl (by decide) _ 0 [] rfl ?d0 A' m c' (s.steps.flatMap encStp) rfl hl2.out ?dA (oneStp _) ?d3 hsz ?d5 ?_)
  case d0 => rw [← hV]; exact owns_empty (Nat.le_refl _) H2.out
  case dA => intro h; rw [← hV]; exact RdL.news (enc := encStp) (k := 11) (fun _ => rfl) (by decide) (hs'.out.below BV.out hB) h
  case d3 => unfold maxLen; omega
  case d5 => rw [← hV]; omega
  rw [← hV]
  clear hV f5 g5 f6
  intro v2 w2 hown hgrow
  replace hown : w2.ownsRow w1.heap.size 45 11 v2 m (s.steps.flatMap encStp) := by simpa using hown
  have r0 : ∀ k, (Value.slice (some ⟨w1.heap.size, 0, none⟩) 0 0).ownBlock = some k → k = w1.heap.size := fun k hk => by simpa [Value.ownBlock] using hk.symm
  have B2 := Lib.hid (Below.grown BV.out hgrow BV.out.size (fun k hk => by have := r0 k hk; omega))
  have G0' := Lib.hid (H0.out.grown hgrow (fun k hk => by have := r0 k hk; omega))
  have G1' := Lib.hid (H1.out.grown hgrow (fun k hk => by have := r0 k hk; omega))
  have O3 := Lib.hid (O2.out.kept hgrow (by
    cases h : (Value.slice A1 n c1).ownBlock with
    | none => exact .inl rfl
    | some k => exact .inr (fun e => by have := hlt1.out k h; have := r0 k e.symm; omega)))
  have O4 := Lib.hid hown
  obtain ⟨A2, c2, rfl⟩ := own_slice hown
  clear hown hgrow r0 H0 H1 H2 BV O2 OV hsz hlt1
  have z1 : w.heap.size < w2.heap.size := G0'.out.lt
  have z2 : w.heap.size + 1 < w2.heap.size := G1'.out.lt
  obtain ⟨f0, f1, f2, f3, f4, f5, f6⟩ := blk7 G0'.out
  obtain ⟨e0, e1, e2, e3, e4, e5, e6⟩ := blk7 G1'.out
  have g6 : w2.frozen? ⟨w.heap.size, 6, none⟩ = false := G0'.out.frozen 6
  have k0 : w2.frozen? ⟨w.heap.size + 1, 0, none⟩ = false := G1'.out.frozen 0
  have k1 : w2.frozen? ⟨w.heap.size + 1, 1, none⟩ = false := G1'.out.frozen 1
  have k2 : w2.frozen? ⟨w.heap.size + 1, 2, none⟩ = false := G1'.out.frozen 2
  have k3 : w2.frozen? ⟨w.heap.size + 1, 3, none⟩ = false := G1'.out.frozen 3
  have k4 : w2.frozen? ⟨w.heap.size + 1, 4, none⟩ = false := G1'.out.frozen 4
  have k5 : w2.frozen? ⟨w.heap.size + 1, 5, none⟩ = false := G1'.out.frozen 5
  have k6 : w2.frozen? ⟨w.heap.size + 1, 6, none⟩ = false := G1'.out.frozen 6
  have FIN := Lib.hid (show ∀ Z, Only w.heap.size (w.heap.size + 1) w2 Z → PP (.returned (.agg #[.int .i64 s.start, .int .i64 s.loc, .int .i64 s.ppb, .int .i64 s.liars, .int .i64 s.aim, .slice A1 n c1, .slice A2 m c2])) Z from fun Z hZ => by
    rw [← hP'.out]
    refine ⟨A1, c1, A2, c2, by unfold vSch; rw [hnn'.out, hmm'.out], ?_, ?_, Only.below B2.out hZ (Nat.le_refl _) (by omega)⟩
    · rw [hnn'.out]; exact RdL.of_own' (enc := encI) (k := 1) (fun _ => rfl) (own_only O3.out hZ (by omega) (by omega)) hnn'.out (by omega)
    · rw [hmm'.out]; exact RdL.of_own' (enc := encStp) (k := 11) (fun _ => rfl) (own_only O4.out hZ (by omega) (by omega)) hmm'.out (by omega))
  go_wp2
  exact bodyPost_ret (v := .agg #[.int .i64 s.start, .int .i64 s.loc, .int .i64 s.ppb, .int .i64 s.liars, .int .i64 s.aim, .slice A1 n c1, .slice A2 m c2]) (by rw [results_cell Tryz.results13]; go_simp) rfl (FIN.out _ (by repeat (with_reducible first | exact Only.refl _ _ _ | refine Only.set ?_ (by first | exact .inl rfl | exact .inr rfl) _)))

/-- What the sanity check plays. -/
def s0 : Sch := ⟨0, 0, 0, 0, 0, [2], [⟨0, 0, 0, 5, 5, 0, 0, 3, 3, 0, 0⟩]⟩
theorem s0_code : s0.code = 0 := by decide
theorem s0_run : s0.run = [⟨8, 8, true, 3, 15, ⟨0, 1000000, true, false, 8, 3⟩⟩] := by kernel_rfl
theorem known_ok (w : World) : Calls Tryz.prog 6 #[] w fun e w' => e = .returned (.bool true) ∧ Below w.heap.size w w' := by
  obtain ⟨W, hW⟩ : ∃ W, W = (w.alloc (.cells #[.int .i64 2] 3)).alloc (.cells #[.int .i64 0, .int .i64 0, .int .i64 0, .int .i64 5, .int .i64 5, .int .i64 0, .int .i64 0, .int .i64 3, .int .i64 3, .int .i64 0, .int .i64 0] 45) := ⟨_, rfl⟩
  have BW := Lib.hid (show Below w.heap.size w W by rw [hW]; exact below_alloc (below_alloc (Below.refl _ _) _) _)
  have H0 := Lib.hid (show Blk W w.heap.size 3 #[.int .i64 2] by rw [hW]; exact (Blk.new _ _ _).alloc _)
  have H1 := Lib.hid (show Blk W (w.heap.size + 1) 45 #[.int .i64 0, .int .i64 0, .int .i64 0, .int .i64 5, .int .i64 5, .int .i64 0, .int .i64 0, .int .i64 3, .int .i64 3, .int .i64 0, .int .i64 0] by rw [hW]; exact Blk.new1 _ _ _ _)
  have zW : W.heap.size = w.heap.size + 2 := by rw [hW]; simp
  have R1 : RdL encI 1 W W.heap.size (some ⟨w.heap.size, 0, none⟩) s0.errs.length s0.errs := ⟨rfl, by decide, fun _ => ⟨_, _, rfl, by omega, fun i x hx j u hu => by
    match i, hx with
    | 0, hx =>
      cases hx
      match j, hu with
      | 0, hu => cases hu; exact H0.out.cell 0⟩⟩
  have R2 : RdL encStp 11 W W.heap.size (some ⟨w.heap.size + 1, 0, none⟩) s0.steps.length s0.steps := ⟨rfl, by decide, fun _ => ⟨_, _, rfl, by omega, fun i x hx j u hu => by
    match i, hx with
    | 0, hx =>
      cases hx
      match j, hu with
      | 0, hu => cases hu; exact H1.out.cell 0
      | 1, hu => cases hu; exact H1.out.cell 1
      | 2, hu => cases hu; exact H1.out.cell 2
      | 3, hu => cases hu; exact H1.out.cell 3
      | 4, hu => cases hu; exact H1.out.cell 4
      | 5, hu => cases hu; exact H1.out.cell 5
      | 6, hu => cases hu; exact H1.out.cell 6
      | 7, hu => cases hu; exact H1.out.cell 7
      | 8, hu => cases hu; exact H1.out.cell 8
      | 9, hu => cases hu; exact H1.out.cell 9
      | 10, hu => cases hu; exact H1.out.cell 10⟩⟩
  have RN := Lib.hid (Run_ok s0 _ _ 1 1 W W.heap.size (Nat.le_refl _) R1 R2)
  clear R1 R2
  go_enter Tryz.func6, Tryz.ntmps6
  go_wp2_with fail
  rw [← hW]
  clear hW
  refine (RN.out).mono ?_
  rintro e w1 ⟨A, c, rfl, hr, hb⟩
  rw [s0_run, s0_code] at *
  obtain ⟨b, off, x, rfl, hbB, hz, hd, c0, c1, c2, c3, c4, c5, c6, c7, c8, c9, c10⟩ := hr.getRp (show 0 < 1 by decide)
  cases hz
  simp only [Nat.zero_mul, Nat.add_zero] at c0 c1 c2 c3 c4 c5 c6 c7 c8 c9 c10
  have B1 := Lib.hid (below_then BW.out hb)
  clear hr hd hb RN BW
  go_wp2
  go_ret
  exact ⟨rfl, B1.out⟩
end Go.Proofs.YtnafhblioabkgaaGreat
