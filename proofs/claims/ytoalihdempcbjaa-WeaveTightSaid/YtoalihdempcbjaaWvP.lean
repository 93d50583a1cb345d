/- weave, plain: the list of spots and each spot's number; the list of triangles. -/
import Derived.Below
namespace Go.Proofs.Ytoalihdempcbjaa
set_option linter.unusedSimpArgs false
set_option linter.unusedVariables false
abbrev T3 := Nat × Nat × Nat
structure Rt where
  r0 : Nat
  r1 : Nat
  r2 : Nat
  r3 : Nat
def Rt.r (R : Rt) : Nat → Nat
  | 0 => R.r0
  | 1 => R.r1
  | 2 => R.r2
  | _ => R.r3
def Rt.m (R : Rt) : Nat := max (max R.r0 R.r1) (max R.r2 R.r3)
def Rt.ok (R : Rt) : Prop := (1 ≤ R.r0 ∧ R.r0 ≤ 16) ∧ (1 ≤ R.r1 ∧ R.r1 ≤ 16) ∧ (1 ≤ R.r2 ∧ R.r2 ≤ 16) ∧ (1 ≤ R.r3 ∧ R.r3 ≤ 16)
theorem Rt.ok_r {R : Rt} (h : R.ok) (k : Nat) : 1 ≤ R.r k ∧ R.r k ≤ 16 ∧ R.r k ≤ R.m := by
  obtain ⟨h0, h1, h2, h3⟩ := h
  unfold Rt.m
  match k with
  | 0 => show 1 ≤ R.r0 ∧ _; simp only [Rt.r]; omega
  | 1 => simp only [Rt.r]; omega
  | 2 => simp only [Rt.r]; omega
  | k + 3 => simp only [Rt.r]; omega
theorem Rt.ok_m {R : Rt} (h : R.ok) : 1 ≤ R.m ∧ R.m ≤ 16 := by
  obtain ⟨h0, h1, h2, h3⟩ := h
  unfold Rt.m; omega
def offE (R : Rt) : Nat → Nat
  | 0 => 4
  | k + 1 => offE R k + (R.r k - 1)
def cornN : List T3 := (List.range 4).map fun k => (1, k, 0)
def edgesN (k r : Nat) : List T3 := (List.range (r - 1)).map fun i => (2, k, i + 1)
def innerN (m : Nat) : List T3 := (List.range (m - 1)).flatMap fun b => (List.range (m - 1)).map fun a => (3, a + 1, b + 1)
def spotsN (R : Rt) : List T3 := cornN ++ ((List.range 4).flatMap fun k => edgesN k (R.r k)) ++ innerN R.m
def nm (R : Rt) (s : T3) : Nat := if s.1 = 1 then s.2.1 else if s.1 = 2 then offE R s.2.1 + (s.2.2 - 1) else offE R 4 + ((s.2.2 - 1) * (R.m - 1) + (s.2.1 - 1))
def vs (R : Rt) (s : T3) : Prop := (s.1 = 1 ∧ s.2.1 < 4 ∧ s.2.2 = 0) ∨ (s.1 = 2 ∧ s.2.1 < 4 ∧ 1 ≤ s.2.2 ∧ s.2.2 < R.r s.2.1) ∨ (s.1 = 3 ∧ (1 ≤ s.2.1 ∧ s.2.1 < R.m) ∧ 1 ≤ s.2.2 ∧ s.2.2 < R.m)
/-- From n0 on the list's spots bear their numbers. -/
def NumL (R : Rt) (n0 : Nat) (L : List T3) : Prop := ∀ j s, L[j]? = some s → nm R s = n0 + j ∧ vs R s
theorem num_nil (R : Rt) (n0 : Nat) : NumL R n0 [] := fun j s h => by simp at h
theorem num_app {R : Rt} {n0 : Nat} {L M : List T3} (h : NumL R n0 L) (k : NumL R (n0 + L.length) M) : NumL R n0 (L ++ M) := by
  intro j s hs
  rcases Nat.lt_or_ge j L.length with hj | hj
  · rw [List.getElem?_append_left hj] at hs; exact h j s hs
  · rw [List.getElem?_append_right hj] at hs
    obtain ⟨a, b⟩ := k _ s hs
    exact ⟨by omega, b⟩
theorem num_map {R : Rt} {n0 c : Nat} {f : Nat → T3} (h : ∀ i, i < c → nm R (f i) = n0 + i ∧ vs R (f i)) : NumL R n0 ((List.range c).map f) := by
  intro j s hs
  rw [List.getElem?_map, Option.map_eq_some_iff] at hs
  obtain ⟨i, hi, rfl⟩ := hs
  rw [List.getElem?_eq_some_iff] at hi
  obtain ⟨hl, rfl⟩ := hi
  rw [List.getElem_range]
  exact h j (by simpa using hl)
theorem num_flat {R : Rt} {f : Nat → List T3} {o : Nat → Nat} (c : Nat) (h : ∀ k, k < c → NumL R (o k) (f k) ∧ o (k + 1) = o k + (f k).length) : NumL R (o 0) ((List.range c).flatMap f) ∧ o c = o 0 + ((List.range c).flatMap f).length := by
  induction c with
  | zero => exact ⟨num_nil _ _, by simp⟩
  | succ c ih =>
    obtain ⟨h1, h2⟩ := ih fun k hk => h k (by omega)
    obtain ⟨h3, h4⟩ := h c (by omega)
    rw [List.range_succ, List.flatMap_append]
    have e : (List.flatMap f [c]) = f c := by simp
    rw [e]
    exact ⟨num_app h1 (by rw [← h2]; exact h3), by rw [List.length_append]; omega⟩
theorem spots_num (R : Rt) (hR : R.ok) : NumL R 0 (spotsN R) ∧ (spotsN R).length = offE R 4 + (R.m - 1) * (R.m - 1) := by
  have hc : NumL R 0 cornN := num_map fun i hi => ⟨by simp [nm], .inl ⟨rfl, hi, rfl⟩⟩
  have hcl : cornN.length = 4 := by simp [cornN]
  obtain ⟨he, hel⟩ := num_flat (R := R) (f := fun k => edgesN k (R.r k)) (o := offE R) 4 fun k hk => ⟨num_map fun i hi => ⟨by simp [nm], .inr (.inl ⟨rfl, hk, by simp, by simp only; omega⟩)⟩, by simp [offE, edgesN]⟩
  obtain ⟨hi, hil⟩ := num_flat (R := R) (f := fun b => (List.range (R.m - 1)).map fun a => (3, a + 1, b + 1)) (o := fun b => offE R 4 + b * (R.m - 1)) (R.m - 1) fun b hb => ⟨num_map fun a ha => ⟨by simp [nm]; omega, .inr (.inr ⟨rfl, by simp only; omega, by simp only; omega⟩)⟩, by simp [Nat.add_mul]; omega⟩
  have e0 : offE R 0 = 4 := rfl
  rw [e0] at he hel
  simp only [Nat.zero_mul, Nat.add_zero] at hi hil
  refine ⟨?_, ?_⟩
  · rw [spotsN]
    refine num_app (num_app hc (by rw [hcl]; exact he)) ?_
    rw [List.length_append, hcl, Nat.zero_add, ← hel]
    exact hi
  · rw [spotsN, List.length_append, List.length_append, hcl, innerN]
    omega
theorem spots_mem (R : Rt) (s : T3) (h : vs R s) : s ∈ spotsN R := by
  obtain ⟨k, a, b⟩ := s
  simp only [spotsN, cornN, edgesN, innerN, List.mem_append, List.mem_map, List.mem_range, List.mem_flatMap]
  rcases h with ⟨h1, h2, h3⟩ | ⟨h1, h2, h3, h4⟩ | ⟨h1, h2, h3⟩ <;> simp only at h1 h2 h3
  · subst h1 h3; exact .inl (.inl ⟨a, h2, rfl⟩)
  · simp only at h4
    subst h1; exact .inl (.inr ⟨a, h2, b - 1, by omega, by rw [Nat.sub_add_cancel h3]⟩)
  · subst h1; exact .inr ⟨b - 1, by omega, a - 1, by omega, by rw [Nat.sub_add_cancel h3.1, Nat.sub_add_cancel h2.1]⟩
/-- Each spot stands at its number, and nowhere else. -/
theorem spots_at (R : Rt) (hR : R.ok) (s : T3) (h : vs R s) : (spotsN R)[nm R s]? = some s := by
  obtain ⟨j, hj⟩ := List.getElem?_of_mem (spots_mem R s h)
  have := ((spots_num R hR).1 j s hj).1
  rw [this, Nat.zero_add]; exact hj
theorem nm_lt (R : Rt) (hR : R.ok) (s : T3) (h : vs R s) : nm R s < (spotsN R).length := (List.getElem?_eq_some_iff.1 (spots_at R hR s h)).1
theorem nm_inj (R : Rt) (hR : R.ok) {s t : T3} (h : vs R s) (k : vs R t) (e : nm R s = nm R t) : s = t := by
  have a := spots_at R hR s h
  rw [e, spots_at R hR t k] at a
  exact (Option.some.inj a).symm
theorem spots_next (R : Rt) (hR : R.ok) (s : T3) (h : vs R s) : (spotsN R).take (nm R s + 1) = (spotsN R).take (nm R s) ++ [s] := by
  obtain ⟨hl, he⟩ := List.getElem?_eq_some_iff.1 (spots_at R hR s h)
  rw [List.take_succ_eq_append_getElem hl, he]
theorem offE_le (R : Rt) (hR : R.ok) : offE R 4 ≤ 64 := by
  have h0 := Rt.ok_r hR 0
  have h1 := Rt.ok_r hR 1
  have h2 := Rt.ok_r hR 2
  have h3 := Rt.ok_r hR 3
  simp only [offE]; omega
theorem spots_le (R : Rt) (hR : R.ok) : (spotsN R).length ≤ 289 := by
  rw [(spots_num R hR).2]
  have h1 := offE_le R hR
  have h2 := Rt.ok_m hR
  have h3 : (R.m - 1) * (R.m - 1) ≤ 15 * 15 := Nat.mul_le_mul (by omega) (by omega)
  omega
/-- The triangles. -/
def inn (R : Rt) (a b : Nat) : Nat := nm R (3, a, b)
def midR (R : Rt) (b n : Nat) : List T3 := (List.range n).flatMap fun a => [(inn R (a + 1) b, inn R (a + 2) b, inn R (a + 2) (b + 1)), (inn R (a + 1) b, inn R (a + 2) (b + 1), inn R (a + 1) (b + 1))]
def midN (R : Rt) (n : Nat) : List T3 := (List.range n).flatMap fun b => midR R (b + 1) (R.m - 2)
def ou (R : Rt) (k i : Nat) : Nat := if i = 0 then k else if i = R.r k then (k + 1) % 4 else nm R (2, k, i)
def besS (m k t : Nat) : T3 := if k = 0 then (3, t, 1) else if k = 1 then (3, m - 1, t) else if k = 2 then (3, m - t, m - 1) else (3, 1, m - t)
def bes (R : Rt) (k t : Nat) : Nat := nm R (besS R.m k t)
def takeO (R : Rt) (k i t : Nat) : Bool := decide (i < R.r k) && (decide (t = R.m - 1) || decide ((2 * i + 1) * R.m ≤ (2 * t + 1) * R.r k))
def stripF (R : Rt) (k : Nat) : Nat → Nat → Nat → List T3
  | 0, _, _ => []
  | f + 1, i, t => if takeO R k i t then (ou R k i, ou R k (i + 1), bes R k t) :: stripF R k f (i + 1) t else (ou R k i, bes R k (t + 1), bes R k t) :: stripF R k f i (t + 1)
def stripN (R : Rt) (k : Nat) : List T3 := stripF R k (R.r k + (R.m - 2)) 0 1
def trisN (R : Rt) : List T3 := if R.m = 1 then [(0, 1, 2), (0, 2, 3)] else midN R (R.m - 2) ++ (List.range 4).flatMap (stripN R)
theorem stripF_len (R : Rt) (k : Nat) : ∀ f i t, (stripF R k f i t).length = f := by
  intro f
  induction f with
  | zero => intro i t; rfl
  | succ f ih => intro i t; rw [stripF]; split <;> simp [ih]
theorem midR_len (R : Rt) (b n : Nat) : (midR R b n).length = 2 * n := by
  induction n with
  | zero => rfl
  | succ n ih => rw [midR, List.range_succ, List.flatMap_append, List.length_append]; rw [midR] at ih; rw [ih]; simp; omega
theorem midN_len (R : Rt) (n : Nat) : (midN R n).length = n * (2 * (R.m - 2)) := by
  induction n with
  | zero => simp [midN]
  | succ n ih => rw [midN, List.range_succ, List.flatMap_append, List.length_append]; rw [midN] at ih; rw [ih]; simp [midR_len, Nat.add_mul]
theorem vs_inner {R : Rt} {a b : Nat} (ha : 1 ≤ a ∧ a < R.m) (hb : 1 ≤ b ∧ b < R.m) : vs R (3, a, b) := .inr (.inr ⟨rfl, ha, hb⟩)
theorem vs_edge {R : Rt} {k i : Nat} (hk : k < 4) (hi : 1 ≤ i ∧ i < R.r k) : vs R (2, k, i) := .inr (.inl ⟨rfl, hk, hi⟩)
theorem vs_corn {R : Rt} {k : Nat} (hk : k < 4) : vs R (1, k, 0) := .inl ⟨rfl, hk, rfl⟩
theorem vs_bes {R : Rt} {k t : Nat} (ht : 1 ≤ t ∧ t < R.m) : vs R (besS R.m k t) := by
  unfold besS
  split
  · exact vs_inner ht (by omega)
  · split
    · exact vs_inner (by omega) ht
    · split
      · exact vs_inner (by omega) (by omega)
      · exact vs_inner (by omega) (by omega)
theorem nm_corn (R : Rt) (k : Nat) : nm R (1, k, 0) = k := by simp [nm]
theorem nm_edge (R : Rt) (k i : Nat) : nm R (2, k, i) = offE R k + (i - 1) := by simp [nm]
theorem nm_inner (R : Rt) (a b : Nat) : nm R (3, a, b) = offE R 4 + ((b - 1) * (R.m - 1) + (a - 1)) := by simp [nm]
end Go.Proofs.Ytoalihdempcbjaa
