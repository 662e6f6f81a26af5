/- A region that draws its order, by an invariant: each operation is walked once, whatever the order. -/
import Derived.Orders
import Derived.RegionTactic
import Derived.KernelRfl
namespace Go.Proofs.YtnafhblioabkgaaGreat
open Go

/-- How many of the first n are not listed yet. -/
def restOf : Nat → Array Bool → Nat
  | 0, _ => 0
  | k + 1, L => restOf k L + if L.getD k true then 0 else 1
theorem restOf_zero {L : Array Bool} : ∀ {n : Nat}, restOf n L = 0 → ∀ j, j < n → L.getD j true = true
  | k + 1, h, j, hj => by
    unfold restOf at h
    by_cases hk : L.getD k true = true
    · rw [if_pos hk] at h
      rcases Nat.lt_or_ge j k with h1 | h1
      · exact restOf_zero h j h1
      · have : j = k := by omega
        subst this; exact hk
    · rw [if_neg hk] at h; omega
theorem restOf_same {L : Array Bool} {i : Nat} : ∀ {n : Nat}, n ≤ i → restOf n (L.setIfInBounds i true) = restOf n L
  | 0, _ => rfl
  | k + 1, h => by
    unfold restOf
    rw [restOf_same (by omega), getD_set_ne true (by omega)]
theorem restOf_set {L : Array Bool} {i : Nat} (hi : L.getD i true = false) : ∀ {n : Nat}, i < n → restOf n (L.setIfInBounds i true) + 1 = restOf n L
  | k + 1, h => by
    unfold restOf
    rcases Nat.lt_or_ge i k with h1 | h1
    · rw [getD_set_ne true (by omega)]
      have := restOf_set hi h1
      omega
    · have : i = k := by omega
      subst this
      have hs : i < L.size := by
        rcases Nat.lt_or_ge i L.size with h | h
        · exact h
        · simp [Array.getD, Nat.not_lt.2 h] at hi
      rw [restOf_same (Nat.le_refl _), hi]
      simp [Array.getD, hs]
theorem restOf_start : ∀ n m : Nat, n ≤ m → restOf n (Array.replicate m false) = n
  | 0, _, _ => rfl
  | k + 1, m, h => by
    unfold restOf
    rw [restOf_start k m (by omega)]
    have : k < m := by omega
    simp [Array.getD, this]
section
variable {P : Program} {ops : Array Oper} {Q : Exit → Act → World → Prop} {md : Region.Mode}
theorem wpAny_inv (Inv : Array Bool → Act → World → Prop)
    (hback : ∀ (i : Nat) (o : Oper), ops[i]? = some o → ∀ e ∈ o.after, Region.binds md e = true → e.on < i)
    (hstep : ∀ (L : Array Bool) (a : Act) (w : World) (i : Nat) (o : Oper), Inv L a w → L.getD i true = false → ops[i]? = some o → (∀ e ∈ o.after, Region.binds md e = true → L.getD e.on false = true) →
      ∀ K : Act → World → Prop, (∀ a' w', Inv (L.setIfInBounds i true) a' w' → K a' w') → if Region.wanted o (yielded ops a.tmps) = true then Oper.wp P o a w K Q else K (a.put o.dst undef) w)
    (hdone : ∀ (L : Array Bool) (a : Act) (w : World), Inv L a w → (∀ i, i < ops.size → L.getD i true = true) → Q .normal a w) :
    ∀ (fuel : Nat) (L : Array Bool) (a : Act) (w : World), L.size = ops.size → restOf ops.size L ≤ fuel → Inv L a w → wpAny P md ops Q fuel L a w := by
  have hall : ∀ L : Array Bool, Region.ready md ops L = [] → L.size = ops.size → ∀ i, i < ops.size → L.getD i true = true := by
    intro L hr hs i
    induction i using Nat.strongRecOn with
    | _ i ih =>
      intro hi
      cases h : L.getD i true
      · exfalso
        have ho : ops[i]? = some ops[i] := Array.getElem?_eq_getElem hi
        have : i ∈ Region.ready md ops L := mem_ready.2 ⟨h, ops[i], ho, fun e he hb => by
          have h1 := ih e.on (hback i _ ho e he hb) (by have := hback i _ ho e he hb; omega)
          have h2 : e.on < L.size := by have := hback i _ ho e he hb; omega
          simpa [Array.getD, h2] using h1⟩
        rw [hr] at this
        cases this
      · rfl
  intro fuel
  induction fuel with
  | zero =>
    intro L a w hs hf hI
    have h0 := restOf_zero (Nat.le_zero.1 hf)
    refine ⟨?_, hdone L a w hI h0⟩
    rw [List.eq_nil_iff_forall_not_mem]
    intro i hi
    obtain ⟨h1, o, ho, _⟩ := mem_ready.1 hi
    rw [h0 i (Array.getElem?_eq_some_iff.1 ho).1] at h1
    cases h1
  | succ fuel ih =>
    intro L a w hs hf hI
    refine ⟨fun hr => hdone L a w hI (hall L hr hs), fun i hi => ?_⟩
    obtain ⟨h1, o, ho, hd⟩ := mem_ready.1 hi
    have hlt := (Array.getElem?_eq_some_iff.1 ho).1
    have hst := hstep L a w i o hI h1 ho hd (wpAny P md ops Q fuel (L.setIfInBounds i true)) (fun a' w' hI' => ih _ a' w' (by simpa using hs) (by have := restOf_set h1 hlt; omega) hI')
    unfold wpOp
    rw [ho]
    split at hst
    · next hw => simp only [hw, if_true]; exact .inl hst
    · next hw => simp only [hw]; exact hst
theorem wp_region_inv {id : Nat} {a : Act} {w : World} (hm : P.follows .mixedOrders = true) (Inv : Array Bool → Act → World → Prop)
    (hback : ∀ (i : Nat) (o : Oper), ops[i]? = some o → ∀ e ∈ o.after, Region.binds .any e = true → e.on < i)
    (hstart : Inv (Array.replicate ops.size false) a w.drew)
    (hstep : ∀ (L : Array Bool) (a : Act) (w : World) (i : Nat) (o : Oper), Inv L a w → L.getD i true = false → ops[i]? = some o → (∀ e ∈ o.after, Region.binds .any e = true → L.getD e.on false = true) →
      ∀ K : Act → World → Prop, (∀ a' w', Inv (L.setIfInBounds i true) a' w' → K a' w') → if Region.wanted o (yielded ops a.tmps) = true then Oper.wp P o a w K Q else K (a.put o.dst undef) w)
    (hdone : ∀ (L : Array Bool) (a : Act) (w : World), Inv L a w → (∀ i, i < ops.size → L.getD i true = true) → Q .normal a w) : (Code.region id ops true).wp P Q a w :=
  wp_region_any hm (wpAny_inv Inv hback hstep hdone ops.size _ a _ (by simp) (by rw [restOf_start _ _ (Nat.le_refl _)]; exact Nat.le_refl _) hstart)
/-- The slots that a region fills, one more of them filled. -/
def upd (v : Nat → Value) (d : Nat) (x : Value) : Nat → Value := fun t => if t = d then x else v t
theorem getD_true {L : Array Bool} {j : Nat} (h : L.getD j false = true) : L.getD j true = true := by
  rcases Nat.lt_or_ge j L.size with h' | h'
  · simpa [Array.getD, h'] using h
  · simp [Array.getD, Nat.not_lt.2 h'] at h
/-! The conditions as Bools, for the kernel. -/
def backB (ops : Array Oper) : Bool := (List.range ops.size).all fun i => match ops[i]? with | some o => o.after.all fun e => !Region.binds .any e || decide (e.on < i) | none => true
theorem backB_spec (h : backB ops = true) (i : Nat) (o : Oper) (ho : ops[i]? = some o) (e : Edge) (he : e ∈ o.after) (hb : Region.binds .any e = true) : e.on < i := by
  have h1 := List.all_eq_true.1 h i (List.mem_range.2 (Array.getElem?_eq_some_iff.1 ho).1)
  rw [ho] at h1
  have h2 := (Array.all_eq_true_iff_forall_mem.1 h1) e he
  rw [hb] at h2
  simpa using h2
def lastB (ops : Array Oper) (m : Nat) : Bool := match ops[m]? with | some ol => (List.range m).all fun j => ol.after.any fun e => e.on == j && Region.binds .any e | none => false
theorem lastB_spec {m : Nat} {ol : Oper} (h : lastB ops m = true) (hol : ops[m]? = some ol) (j : Nat) (hj : j < m) : ∃ e ∈ ol.after, e.on = j ∧ Region.binds .any e = true := by
  unfold lastB at h
  rw [hol] at h
  have h1 := List.all_eq_true.1 h j (List.mem_range.2 hj)
  obtain ⟨e, he, h2⟩ := Array.any_eq_true'.1 h1
  simp only [Bool.and_eq_true, beq_iff_eq] at h2
  exact ⟨e, he, h2.1, h2.2⟩
def injB (ops : Array Oper) (m : Nat) : Bool := (List.range m).all fun i => (List.range m).all fun j => match (ops[i]?).bind (·.dst), (ops[j]?).bind (·.dst) with | some a, some b => i == j || !(a == b) | _, _ => true
theorem injB_spec {m : Nat} (h : injB ops m = true) (i j : Nat) (oi oj : Oper) (d : Tmp) (hi : i < m) (hj : j < m) (h1 : ops[i]? = some oi) (h2 : ops[j]? = some oj) (h3 : oi.dst = some d) (h4 : oj.dst = some d) : i = j := by
  have h5 := List.all_eq_true.1 (List.all_eq_true.1 h i (List.mem_range.2 hi)) j (List.mem_range.2 hj)
  rw [h1, h2] at h5
  simp only [Option.bind_some, h3, h4] at h5
  simpa using h5
/-- A region that draws its order: of each operation but the last is shown, once, what it yields (F), whatever came up before it but for what it waits for; the last waits for all. X: what holds besides, R: how an operation may change the world. -/
theorem wp_region_facts {id : Nat} {a0 : Act} {w0 : World} (hm : P.follows .mixedOrders = true)
    (frame : (Nat → Value) → Act) (v0 : Nat → Value) (ha0 : a0 = frame v0)
    (F : Nat → Value → World → Prop) (X : Array Bool → World → Prop) (R : Nat → World → World → Prop) (m : Nat)
    (hsz : ops.size = m + 1) (hgl : ∀ ol, ops[m]? = some ol → ol.guard = none)
    (hbackB : backB ops = true) (hlastB : lastB ops m = true) (hinjB : injB ops m = true)
    (hX0 : X (Array.replicate ops.size false) w0.drew)
    (hRF : ∀ i j x w w', i ≠ j → F j x w → R i w w' → F j x w')
    (hdst : ∀ (i : Nat) (o : Oper), i < m → ops[i]? = some o → ∃ d, o.dst = some d ∧ o.guard = none ∧ ∀ v x, (frame v).put (some d) x = frame (upd v d x))
    (hop : ∀ (i : Nat) (o : Oper) (L : Array Bool) (v : Nat → Value) (w : World), i < m → ops[i]? = some o → L.getD i true = false → X L w →
      (∀ e ∈ o.after, Region.binds .any e = true → ∀ oe d, ops[e.on]? = some oe → oe.dst = some d → F e.on (v d) w) →
      ∀ K : Act → World → Prop, (∀ x w', X (L.setIfInBounds i true) w' → R i w w' → F i x w' → K ((frame v).put o.dst x) w') → Oper.wp P o (frame v) w K Q)
    (hend : ∀ (ol : Oper) (L : Array Bool) (v : Nat → Value) (w : World), ops[m]? = some ol → X L w → (∀ i o d, i < m → ops[i]? = some o → o.dst = some d → F i (v d) w) → Oper.wp P ol (frame v) w (fun a w' => Q .normal a w') Q) :
    (Code.region id ops true).wp P Q a0 w0 := by
  obtain ⟨ol, hol⟩ : ∃ ol, ops[m]? = some ol := ⟨_, Array.getElem?_eq_getElem (by omega)⟩
  have hgo := hgl ol hol
  have hback := backB_spec hbackB
  have hlast := lastB_spec hlastB hol
  have hinj := injB_spec hinjB
  refine wp_region_inv hm (fun L a w => (L.getD m true = false ∧ ∃ v, a = frame v ∧ X L w ∧ ∀ (i : Nat) (o : Oper) (d : Tmp), i < m → L.getD i false = true → ops[i]? = some o → o.dst = some d → F i (v d) w) ∨ ((∀ i, i < m + 1 → L.getD i true = true) ∧ Q .normal a w)) hback ?_ ?_ ?_
  · refine .inl ⟨?_, v0, ha0, hX0, fun i o d _ h _ _ => ?_⟩
    · have : m < ops.size := by omega
      simp [Array.getD, this]
    · exfalso
      rcases Nat.lt_or_ge i ops.size with h' | h'
      · simp [Array.getD, h'] at h
      · simp [Array.getD, Nat.not_lt.2 h'] at h
  · intro L a w i o hI hu ho hdep K hK
    have hi := (Array.getElem?_eq_some_iff.1 ho).1
    rcases hI with ⟨hmL, v, rfl, hR, hF⟩ | ⟨hall, _⟩
    · rcases Nat.lt_or_ge i m with h | h
      · obtain ⟨d, hd, hg, hp⟩ := hdst i o h ho
        rw [if_pos (by simp [Region.wanted, hg])]
        refine hop i o L v w h ho hu hR (fun e he hb oe de hoe hde => hF e.on oe de (by have := hback i o ho e he hb; omega) (hdep e he hb) hoe hde) K (fun x w' hX' hR' hF' => hK _ _ (.inl ⟨?_, upd v d x, by rw [hd, hp], hX', fun j oj dj hj hL hoj hdj => ?_⟩))
        · rw [getD_set_ne true (by omega)]; exact hmL
        · by_cases hji : j = i
          · subst hji
            rw [ho] at hoj
            cases hoj
            rw [hd] at hdj
            cases hdj
            simpa [upd] using hF'
          · have hne : dj ≠ d := fun e => hji (hinj j i oj o d hj h hoj ho (e ▸ hdj) hd)
            rw [getD_set_ne false (Ne.symm hji)] at hL
            simp only [upd, if_neg hne]
            exact hRF i j _ _ _ (Ne.symm hji) (hF j oj dj hj hL hoj hdj) hR'
      · have : i = m := by omega
        subst this
        rw [hol] at ho
        cases ho
        rw [if_pos (by simp [Region.wanted, hgo])]
        have hall : ∀ j, j < i → L.getD j false = true := fun j hj => by
          obtain ⟨e, he, rfl, hb⟩ := hlast j hj
          exact hdep e he hb
        refine Oper.wp_mono (fun a' w' h => hK _ _ (.inr ⟨fun j hj => ?_, h⟩)) (hend ol L v w hol hR (fun j oj dj hj hoj hdj => hF j oj dj hj (hall j hj) hoj hdj))
        rcases Nat.lt_or_ge j i with h1 | h1
        · rw [getD_set_ne true (by omega)]; exact getD_true (hall j h1)
        · have : j = i := by omega
          subst this
          rcases Nat.lt_or_ge j L.size with h2 | h2
          · simp [Array.getD, h2]
          · simp [Array.getD, Nat.not_lt.2 h2] at hu
    · rw [hall i (by omega)] at hu
      cases hu
  · intro L a w hI hall
    rcases hI with ⟨hmL, _⟩ | ⟨_, h⟩
    · rw [hall m (by omega)] at hmL
      cases hmL
    · exact h
theorem getD_done (L : Array Bool) (i : Nat) : (L.setIfInBounds i true).getD i true = true := by
  rcases Nat.lt_or_ge i L.size with h2 | h2
  · simp [Array.getD, h2]
  · simp [Array.getD, Nat.not_lt.2 h2]
/-! The same where no operation need be the last. -/
def Closed (ops : Array Oper) (L : Array Bool) : Prop := ∀ (j : Nat) (oj : Oper), ops[j]? = some oj → L.getD j true = true → ∀ e ∈ oj.after, Region.binds .any e = true → L.getD e.on true = true
def waitsB (ops : Array Oper) (m i : Nat) : Bool := match ops[m]? with | some o => o.after.any fun e => e.on == i && Region.binds .any e | none => false
theorem notYet {L : Array Bool} {m i : Nat} (h : waitsB ops m i = true) (hC : Closed ops L) (hu : L.getD i true = false) : L.getD m true = false := by
  unfold waitsB at h
  cases ho : ops[m]? with
  | none => rw [ho] at h; cases h
  | some o =>
    rw [ho] at h
    obtain ⟨e, he, h2⟩ := Array.any_eq_true'.1 h
    simp only [Bool.and_eq_true, beq_iff_eq] at h2
    cases hL : L.getD m true
    · rfl
    · have := hC m o ho hL e he h2.2
      rw [h2.1, hu] at this
      cases this
/-- What holds before operation m has come up, and behind it. -/
def Phase (m : Nat) (Pre Post : World → Prop) (L : Array Bool) (W : World) : Prop := (L.getD m true = false → Pre W) ∧ (L.getD m true = true → Post W)
theorem Phase.keep {m i : Nat} {Pre Post : World → Prop} {L : Array Bool} {W : World} (h : Phase m Pre Post L W) (hne : i ≠ m) : Phase m Pre Post (L.setIfInBounds i true) W := by
  unfold Phase at *
  rw [getD_set_ne true hne]
  exact h
theorem Phase.pre {m i : Nat} {Pre Post : World → Prop} {L : Array Bool} {W : World} (hm : L.getD m true = false) (hne : i ≠ m) (h : Pre W) : Phase m Pre Post (L.setIfInBounds i true) W := by
  unfold Phase
  rw [getD_set_ne true hne, hm]
  exact ⟨fun _ => h, fun e => by cases e⟩
theorem Phase.post {m : Nat} {Pre Post : World → Prop} {L : Array Bool} {W : World} (h : Post W) : Phase m Pre Post (L.setIfInBounds m true) W := by
  unfold Phase
  rw [getD_done]
  exact ⟨fun e => (by cases e), fun _ => h⟩
theorem wp_region_all {id : Nat} {a0 : Act} {w0 : World} (hm : P.follows .mixedOrders = true)
    (frame : (Nat → Value) → Act) (v0 : Nat → Value) (ha0 : a0 = frame v0)
    (F : Nat → Value → World → Prop) (X : Array Bool → World → Prop) (R : Nat → World → World → Prop)
    (hbackB : backB ops = true) (hinjB : injB ops ops.size = true)
    (hX0 : X (Array.replicate ops.size false) w0.drew)
    (hRF : ∀ i j x w w', i ≠ j → F j x w → R i w w' → F j x w')
    (hdst : ∀ (i : Nat) (o : Oper), i < ops.size → ops[i]? = some o → o.guard = none ∧ (∀ v x, (frame v).put o.dst x = frame (match o.dst with | some d => upd v d x | none => v)))
    (hop : ∀ (i : Nat) (o : Oper) (L : Array Bool) (v : Nat → Value) (w : World), i < ops.size → ops[i]? = some o → L.getD i true = false → Closed ops L → X L w →
      (∀ e ∈ o.after, Region.binds .any e = true → ∀ oe d, ops[e.on]? = some oe → oe.dst = some d → F e.on (v d) w) →
      ∀ K : Act → World → Prop, (∀ x w', X (L.setIfInBounds i true) w' → R i w w' → F i x w' → K ((frame v).put o.dst x) w') → Oper.wp P o (frame v) w K Q)
    (hend : ∀ (L : Array Bool) (v : Nat → Value) (w : World), X L w → (∀ i, i < ops.size → L.getD i true = true) → (∀ i o d, ops[i]? = some o → o.dst = some d → F i (v d) w) → Q .normal (frame v) w) :
    (Code.region id ops true).wp P Q a0 w0 := by
  have hback := backB_spec hbackB
  have hinj := injB_spec hinjB
  have hlt : ∀ {i : Nat} {o : Oper}, ops[i]? = some o → i < ops.size := fun h => (Array.getElem?_eq_some_iff.1 h).1
  have conv : ∀ {L : Array Bool} {i : Nat}, L.size = ops.size → i < ops.size → (L.getD i true = true ↔ L.getD i false = true) := fun {L i} hs hi => by
    have : i < L.size := by omega
    simp [Array.getD, this]
  refine wp_region_inv hm (fun L a w => L.size = ops.size ∧ Closed ops L ∧ ∃ v, a = frame v ∧ X L w ∧ ∀ (i : Nat) (o : Oper) (d : Tmp), L.getD i true = true → ops[i]? = some o → o.dst = some d → F i (v d) w) hback ?_ ?_ ?_
  · refine ⟨by simp, fun j oj hoj hL => ?_, v0, ha0, hX0, fun i o d hL hoj _ => ?_⟩
    all_goals
      have := hlt hoj
      simp [Array.getD, this] at hL
  · intro L a w i o hI hu ho hdep K hK
    obtain ⟨hs, hC, v, rfl, hX, hF⟩ := hI
    have hi := hlt ho
    obtain ⟨hg, hp⟩ := hdst i o hi ho
    rw [if_pos (by simp [Region.wanted, hg])]
    have hdep' : ∀ e ∈ o.after, Region.binds .any e = true → L.getD e.on true = true := fun e he hb => (conv hs (by have := hback i o ho e he hb; omega)).2 (hdep e he hb)
    refine hop i o L v w hi ho hu hC hX (fun e he hb oe d hoe hde => hF e.on oe d (hdep' e he hb) hoe hde) K (fun x w' hX' hR' hF' => hK _ _ ⟨by simpa using hs, fun j oj hoj hL e he hb => ?_, _, hp v x, hX', fun j oj dj hL hoj hdj => ?_⟩)
    · by_cases hji : j = i
      · subst hji
        rw [ho] at hoj
        cases hoj
        rw [getD_set_ne true (by have := hback j o ho e he hb; omega)]
        exact hdep' e he hb
      · rw [getD_set_ne true (Ne.symm hji)] at hL
        by_cases hei : e.on = i
        · rw [hei]; exact getD_done L i
        · rw [getD_set_ne true (Ne.symm hei)]
          exact hC j oj hoj hL e he hb
    · by_cases hji : j = i
      · subst hji
        rw [ho] at hoj
        cases hoj
        rw [hdj]
        simpa [upd] using hF'
      · rw [getD_set_ne true (Ne.symm hji)] at hL
        have h1 := hRF i j _ _ _ (Ne.symm hji) (hF j oj dj hL hoj hdj) hR'
        cases hd : o.dst with
        | none => exact h1
        | some d =>
          have hne : dj ≠ d := fun e => hji (hinj j i oj o d (hlt hoj) hi hoj ho (e ▸ hdj) hd)
          simp only [upd, if_neg hne]
          exact h1
  · intro L a w hI hall
    obtain ⟨hs, hC, v, rfl, hX, hF⟩ := hI
    exact hend L v w hX hall (fun i o d ho hd => hF i o d (hall i (hlt ho)) ho hd)
end
end Go.Proofs.YtnafhblioabkgaaGreat
