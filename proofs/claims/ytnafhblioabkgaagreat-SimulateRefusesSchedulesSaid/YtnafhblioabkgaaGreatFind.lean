/- slices.IndexFunc and ContainsFunc at the types that occur: a list is searched by whatever predicate pays its contract. -/
import Derived.Test.YtnafhblioabkgaaGreatVal
import Derived.Deep.LoopGhost
namespace Go.Proofs.YtnafhblioabkgaaGreat
open Go.RowKit

/-- What is asked of a predicate: in whatever world that has grown out of w it answers p. -/
def Asks {α : Type} (g : Nat) (lb : Array Value) (v : α → Value) (p : α → Bool) (w : World) : Prop :=
  ∀ (W : World) (x : α), Below w.heap.size w W → Calls Tryz.prog g (#[v x] ++ lb) W fun e w' => e = .returned (.bool (p x)) ∧ Below W.heap.size W w'
/-- The first place from i on at which p holds; -1: there is none. -/
def idxOf {α : Type} (p : α → Bool) : List α → Int → Int
  | [], _ => -1
  | x :: r, i => if p x then i else idxOf p r (i + 1)
theorem idxOf_nonneg {α : Type} (p : α → Bool) (l : List α) : ∀ i : Int, 0 ≤ i → decide (0 ≤ idxOf p l i) = l.any p := by
  induction l with
  | nil => intro i _; rfl
  | cons x r ih =>
    intro i hi
    simp only [idxOf, List.any_cons]
    by_cases h : p x = true
    · simp [h, hi]
    · simp [h, ih (i + 1) (by omega)]
abbrev vSp (x : Int × Int) : Value := .agg #[.int .i64 x.1, .int .i64 x.2]
abbrev vI (x : Int) : Value := .int .i64 x
abbrev vStp (x : Stp) : Value := .agg #[.int .i64 x.src, .int .i64 x.tru, .int .i64 x.loc, .int .i64 x.out, .int .i64 x.outL, .int .i64 x.hold, .int .i64 x.holdL, .int .i64 x.back, .int .i64 x.backL, .int .i64 x.w2, .int .i64 x.w3]

theorem IndexFunc_Sp (g : Nat) (lb : Array Value) (p : Int × Int → Bool) (A : Option Addr) (n c : Nat) (zs : List (Int × Int)) (w : World) (B : Nat)
    (eg : ∀ args w, (callFunc g args).run Tryz.prog w = .ok (.enter g args) w) (hB : B ≤ w.heap.size) (hr : RdL encSp 2 w B A n zs) (hp : Asks g lb vSp p w) :
    Calls Tryz.prog 130 #[.slice A n c, .func (.func g) #[] lb] w fun e w' => e = .returned (.int .i64 (idxOf p zs 0)) ∧ Below w.heap.size w w' := by
  go_enter Tryz.func130, Tryz.ntmps130
  go_wp2
  go_loopg [5, 8] n (fun gg _ s8 wr => ∃ k : Nat, k ≤ n ∧ n - k ≤ gg ∧ s8 = .int .i64 k ∧ Hid (Below w.heap.size w wr) ∧ Hid (idxOf p zs 0 = idxOf p (zs.drop k) k))
  case atStart => exact ⟨0, Nat.zero_le _, by omega, rfl, Lib.hid (Below.refl _ _), Lib.hid (by simp)⟩
  case round =>
    obtain ⟨k, hk, hg, rfl, hb, hx⟩ := hrel
    by_cases hlt : k < n
    · obtain ⟨b, off, x, rfl, hbB, hz, hd, c0, c1⟩ := (hr.below hb.out hB).getSp hlt
      have P := Lib.hid (hp wr x hb.out)
      have hbig := hr.big
      clear hr hp
      by_cases hpx : p x = true
      · have hx2 : idxOf p zs 0 = k := by rw [hx.out, hd]; simp [idxOf, hpx]
        have H := Lib.hid hx2
        clear hx2 hd hz
        go_wp2_with (go_at_fn g; refine (P.out).mono ?_; rintro e w' ⟨rfl, hb2⟩)
        go_ret
        exact ⟨by rw [H.out]; rfl, below_then hb.out hb2⟩
      · have hx2 : idxOf p zs 0 = idxOf p (zs.drop (k + 1)) ((k + 1 : Nat) : Int) := by rw [hx.out, hd]; simp [idxOf, hpx]
        have H := Lib.hid hx2
        clear hx2 hd hz
        go_wp2_with (go_at_fn g; refine (P.out).mono ?_; rintro e w' ⟨rfl, hb2⟩)
        go_roundg (n - (k + 1))
        case rel => exact ⟨k + 1, by omega, Nat.le_refl _, by go_num, Lib.hid (below_then hb.out hb2), H⟩
        case measure => omega
    · obtain rfl : n = k := by omega
      have hl := hr.len
      have hx2 : idxOf p zs 0 = -1 := by rw [hx.out, ← hl]; simp [idxOf]
      have H := Lib.hid hx2
      clear hx2 hl
      go_wp2
      go_ret
      exact ⟨by rw [H.out]; rfl, hb.out⟩

theorem ContainsFunc_Sp (g : Nat) (lb : Array Value) (p : Int × Int → Bool) (A : Option Addr) (n c : Nat) (zs : List (Int × Int)) (w : World) (B : Nat)
    (eg : ∀ args w, (callFunc g args).run Tryz.prog w = .ok (.enter g args) w) (hB : B ≤ w.heap.size) (hr : RdL encSp 2 w B A n zs) (hp : Asks g lb vSp p w) :
    Calls Tryz.prog 124 #[.slice A n c, .func (.func g) #[] lb] w fun e w' => e = .returned (.bool (zs.any p)) ∧ Below w.heap.size w w' := by
  have H := Lib.hid (IndexFunc_Sp g lb p A n c zs w B eg hB hr hp)
  have E := idxOf_nonneg p zs 0 (by omega)
  clear hr hp eg
  rw [← E]
  clear E
  generalize idxOf p zs 0 = r at *
  go_enter Tryz.func124, Tryz.ntmps124
  go_wp2_with (go_at_call 130; refine (H.out).mono ?_; rintro e w' ⟨rfl, hb2⟩)
  go_ret
  exact ⟨rfl, hb2⟩

theorem IndexFunc_I (g : Nat) (lb : Array Value) (p : Int → Bool) (A : Option Addr) (n c : Nat) (zs : List Int) (w : World) (B : Nat)
    (eg : ∀ args w, (callFunc g args).run Tryz.prog w = .ok (.enter g args) w) (hB : B ≤ w.heap.size) (hr : RdL encI 1 w B A n zs) (hp : Asks g lb vI p w) :
    Calls Tryz.prog 87 #[.slice A n c, .func (.func g) #[] lb] w fun e w' => e = .returned (.int .i64 (idxOf p zs 0)) ∧ Below w.heap.size w w' := by
  go_enter Tryz.func87, Tryz.ntmps87
  go_wp2
  go_loopg [5, 8] n (fun gg _ s8 wr => ∃ k : Nat, k ≤ n ∧ n - k ≤ gg ∧ s8 = .int .i64 k ∧ Hid (Below w.heap.size w wr) ∧ Hid (idxOf p zs 0 = idxOf p (zs.drop k) k))
  case atStart => exact ⟨0, Nat.zero_le _, by omega, rfl, Lib.hid (Below.refl _ _), Lib.hid (by simp)⟩
  case round =>
    obtain ⟨k, hk, hg, rfl, hb, hx⟩ := hrel
    by_cases hlt : k < n
    · obtain ⟨b, off, x, rfl, hbB, hz, hd, c0⟩ := (hr.below hb.out hB).getI hlt
      have P := Lib.hid (hp wr x hb.out)
      have hbig := hr.big
      clear hr hp
      by_cases hpx : p x = true
      · have hx2 : idxOf p zs 0 = k := by rw [hx.out, hd]; simp [idxOf, hpx]
        have H := Lib.hid hx2
        clear hx2 hd hz
        go_wp2_with (go_at_fn g; refine (P.out).mono ?_; rintro e w' ⟨rfl, hb2⟩)
        go_ret
        exact ⟨by rw [H.out]; rfl, below_then hb.out hb2⟩
      · have hx2 : idxOf p zs 0 = idxOf p (zs.drop (k + 1)) ((k + 1 : Nat) : Int) := by rw [hx.out, hd]; simp [idxOf, hpx]
        have H := Lib.hid hx2
        clear hx2 hd hz
        go_wp2_with (go_at_fn g; refine (P.out).mono ?_; rintro e w' ⟨rfl, hb2⟩)
        go_roundg (n - (k + 1))
        case rel => exact ⟨k + 1, by omega, Nat.le_refl _, by go_num, Lib.hid (below_then hb.out hb2), H⟩
        case measure => omega
    · obtain rfl : n = k := by omega
      have hl := hr.len
      have hx2 : idxOf p zs 0 = -1 := by rw [hx.out, ← hl]; simp [idxOf]
      have H := Lib.hid hx2
      clear hx2 hl
      go_wp2
      go_ret
      exact ⟨by rw [H.out]; rfl, hb.out⟩

theorem ContainsFunc_I (g : Nat) (lb : Array Value) (p : Int → Bool) (A : Option Addr) (n c : Nat) (zs : List Int) (w : World) (B : Nat)
    (eg : ∀ args w, (callFunc g args).run Tryz.prog w = .ok (.enter g args) w) (hB : B ≤ w.heap.size) (hr : RdL encI 1 w B A n zs) (hp : Asks g lb vI p w) :
    Calls Tryz.prog 65 #[.slice A n c, .func (.func g) #[] lb] w fun e w' => e = .returned (.bool (zs.any p)) ∧ Below w.heap.size w w' := by
  have H := Lib.hid (IndexFunc_I g lb p A n c zs w B eg hB hr hp)
  have E := idxOf_nonneg p zs 0 (by omega)
  clear hr hp eg
  rw [← E]
  clear E
  generalize idxOf p zs 0 = r at *
  go_enter Tryz.func65, Tryz.ntmps65
  go_wp2_with (go_at_call 87; refine (H.out).mono ?_; rintro e w' ⟨rfl, hb2⟩)
  go_ret
  exact ⟨rfl, hb2⟩

theorem IndexFunc_Stp (g : Nat) (lb : Array Value) (p : Stp → Bool) (A : Option Addr) (n c : Nat) (zs : List Stp) (w : World) (B : Nat)
    (eg : ∀ args w, (callFunc g args).run Tryz.prog w = .ok (.enter g args) w) (hB : B ≤ w.heap.size) (hr : RdL encStp 11 w B A n zs) (hp : Asks g lb vStp p w) :
    Calls Tryz.prog 55 #[.slice A n c, .func (.func g) #[] lb] w fun e w' => e = .returned (.int .i64 (idxOf p zs 0)) ∧ Below w.heap.size w w' := by
  go_enter Tryz.func55, Tryz.ntmps55
  go_wp2
  go_loopg [5, 8] n (fun gg _ s8 wr => ∃ k : Nat, k ≤ n ∧ n - k ≤ gg ∧ s8 = .int .i64 k ∧ Hid (Below w.heap.size w wr) ∧ Hid (idxOf p zs 0 = idxOf p (zs.drop k) k))
  case atStart => exact ⟨0, Nat.zero_le _, by omega, rfl, Lib.hid (Below.refl _ _), Lib.hid (by simp)⟩
  case round =>
    obtain ⟨k, hk, hg, rfl, hb, hx⟩ := hrel
    by_cases hlt : k < n
    · obtain ⟨b, off, x, rfl, hbB, hz, hd, c0, c1, c2, c3, c4, c5, c6, c7, c8, c9, c10⟩ := (hr.below hb.out hB).getStp hlt
      have P := Lib.hid (hp wr x hb.out)
      have hbig := hr.big
      clear hr hp
      by_cases hpx : p x = true
      · have hx2 : idxOf p zs 0 = k := by rw [hx.out, hd]; simp [idxOf, hpx]
        have H := Lib.hid hx2
        clear hx2 hd hz
        go_wp2_with (go_at_fn g; refine (P.out).mono ?_; rintro e w' ⟨rfl, hb2⟩)
        go_ret
        exact ⟨by rw [H.out]; rfl, below_then hb.out hb2⟩
      · have hx2 : idxOf p zs 0 = idxOf p (zs.drop (k + 1)) ((k + 1 : Nat) : Int) := by rw [hx.out, hd]; simp [idxOf, hpx]
        have H := Lib.hid hx2
        clear hx2 hd hz
        go_wp2_with (go_at_fn g; refine (P.out).mono ?_; rintro e w' ⟨rfl, hb2⟩)
        go_roundg (n - (k + 1))
        case rel => exact ⟨k + 1, by omega, Nat.le_refl _, by go_num, Lib.hid (below_then hb.out hb2), H⟩
        case measure => omega
    · obtain rfl : n = k := by omega
      have hl := hr.len
      have hx2 : idxOf p zs 0 = -1 := by rw [hx.out, ← hl]; simp [idxOf]
      have H := Lib.hid hx2
      clear hx2 hl
      go_wp2
      go_ret
      exact ⟨by rw [H.out]; rfl, hb.out⟩

theorem ContainsFunc_Stp (g : Nat) (lb : Array Value) (p : Stp → Bool) (A : Option Addr) (n c : Nat) (zs : List Stp) (w : World) (B : Nat)
    (eg : ∀ args w, (callFunc g args).run Tryz.prog w = .ok (.enter g args) w) (hB : B ≤ w.heap.size) (hr : RdL encStp 11 w B A n zs) (hp : Asks g lb vStp p w) :
    Calls Tryz.prog 29 #[.slice A n c, .func (.func g) #[] lb] w fun e w' => e = .returned (.bool (zs.any p)) ∧ Below w.heap.size w w' := by
  have H := Lib.hid (IndexFunc_Stp g lb p A n c zs w B eg hB hr hp)
  have E := idxOf_nonneg p zs 0 (by omega)
  clear hr hp eg
  rw [← E]
  clear E
  generalize idxOf p zs 0 = r at *
  go_enter Tryz.func29, Tryz.ntmps29
  go_wp2_with (go_at_call 55; refine (H.out).mono ?_; rintro e w' ⟨rfl, hb2⟩)
  go_ret
  exact ⟨rfl, hb2⟩
end Go.Proofs.YtnafhblioabkgaaGreat
