/- weave laid flat, plain: no triangle is turned over, and they fill the square. -/
import Derived.Test.YtoalihdempcbjaaWFlatP
namespace Go.Proofs.Ytoalihdempcbjaa
open Go.RowKit
set_option maxRecDepth 100000
set_option linter.unusedSimpArgs false
set_option linter.unusedVariables false
def pn (R : Rt) (n : Nat) : Nat × Nat := pl R ((spotsN R)[n]?.getD (0, 0, 0))
theorem pn_nm {R : Rt} (hR : R.ok) {s : T3} (h : vs R s) : pn R (nm R s) = pl R s := by rw [pn, spots_at R hR s h]; rfl
def ar (R : Rt) (t : T3) : Int := cr (pn R t.1) (pn R t.2.1) (pn R t.2.2)
def sumA (R : Rt) : List T3 → Int
  | [] => 0
  | t :: l => ar R t + sumA R l
theorem sumA_app (R : Rt) (l m : List T3) : sumA R (l ++ m) = sumA R l + sumA R m := by
  induction l with
  | nil => simp [sumA]
  | cons t l ih => simp only [List.cons_append, sumA, ih]; omega
def triOk (R : Rt) (t : T3) : Prop := (∃ s1 s2 s3, vs R s1 ∧ vs R s2 ∧ vs R s3 ∧ t = (nm R s1, nm R s2, nm R s3)) ∧ 0 < ar R t
def PA (R : Rt) (L : List T3) (S : Nat) : Prop := (∀ t ∈ L, triOk R t) ∧ sumA R L = (S : Int)
theorem pa_nil (R : Rt) : PA R [] 0 := ⟨fun t h => absurd h (List.not_mem_nil), rfl⟩
theorem pa_app {R : Rt} {L M : List T3} {S T : Nat} (h : PA R L S) (k : PA R M T) : PA R (L ++ M) (S + T) := by
  refine ⟨fun t ht => ?_, ?_⟩
  · rcases List.mem_append.1 ht with e | e
    · exact h.1 t e
    · exact k.1 t e
  · rw [sumA_app, h.2, k.2]; omega
theorem pa_one {R : Rt} (hR : R.ok) {s1 s2 s3 : T3} {x y z S : Nat} (h1 : vs R s1) (h2 : vs R s2) (h3 : vs R s3) (e1 : nm R s1 = x) (e2 : nm R s2 = y) (e3 : nm R s3 = z) (hS : cr (pl R s1) (pl R s2) (pl R s3) = (S : Int)) (h0 : 0 < S) : PA R [(x, y, z)] S := by
  subst e1 e2 e3
  have ha : ar R (nm R s1, nm R s2, nm R s3) = (S : Int) := by rw [ar, pn_nm hR h1, pn_nm hR h2, pn_nm hR h3, hS]
  refine ⟨fun t ht => ?_, ?_⟩
  · rw [List.mem_singleton.1 ht]
    exact ⟨⟨s1, s2, s3, h1, h2, h3, rfl⟩, by rw [ha]; omega⟩
  · rw [sumA, sumA, ha]; omega
theorem part_pos0 : ∀ m, m < 17 → 1 ≤ m → 1 ≤ 720720 / m := by decide
theorem part_pos {m : Nat} (h1 : 1 ≤ m) (h2 : m ≤ 16) : 1 ≤ 720720 / m := part_pos0 m (by omega) h1
theorem area_m1 {R : Rt} (hR : R.ok) (a b : Nat) : cr (pl R (3, a, b)) (pl R (3, a + 1, b)) (pl R (3, a + 1, b + 1)) = ((720720 / R.m * (720720 / R.m) : Nat) : Int) := by
  rw [pl_inn hR, pl_inn hR, pl_inn hR, Nat.succ_mul, Nat.succ_mul]
  generalize 720720 / R.m = u
  rw [cr_of (d1 := (u : Int)) (d2 := (u : Int)) (d3 := 0) (d4 := (u : Int)) (by simp only []; omega) (by simp only []; omega) (by simp only []; omega) (by simp only []; omega), Int.zero_mul, Int.sub_zero, Int.natCast_mul]
theorem area_m2 {R : Rt} (hR : R.ok) (a b : Nat) : cr (pl R (3, a, b)) (pl R (3, a + 1, b + 1)) (pl R (3, a, b + 1)) = ((720720 / R.m * (720720 / R.m) : Nat) : Int) := by
  rw [pl_inn hR, pl_inn hR, pl_inn hR, Nat.succ_mul, Nat.succ_mul]
  generalize 720720 / R.m = u
  rw [cr_of (d1 := (u : Int)) (d2 := (u : Int)) (d3 := (u : Int)) (d4 := 0) (by simp only []; omega) (by simp only []; omega) (by simp only []; omega) (by simp only []; omega), Int.mul_zero, Int.sub_zero, Int.natCast_mul]
theorem midR_pa {R : Rt} (hR : R.ok) {b : Nat} (hb : 1 ≤ b ∧ b + 1 < R.m) : ∀ n, n + 1 < R.m → PA R (midR R b n) (n * (2 * (720720 / R.m * (720720 / R.m)))) := by
  have hm := Rt.ok_m hR
  have hp := Nat.mul_pos (part_pos hm.1 hm.2) (part_pos hm.1 hm.2)
  intro n
  induction n with
  | zero => intro _; rw [Nat.zero_mul]; exact pa_nil R
  | succ n ih =>
    intro hn
    rw [midR, List.range_succ, List.flatMap_append, Nat.succ_mul]
    refine pa_app (ih (by omega)) ?_
    have h1 : PA R [(inn R (n + 1) b, inn R (n + 2) b, inn R (n + 2) (b + 1))] (720720 / R.m * (720720 / R.m)) := pa_one hR (vs_inner (by omega) (by omega)) (vs_inner (by omega) (by omega)) (vs_inner (by omega) (by omega)) rfl rfl rfl (area_m1 hR (n + 1) b) hp
    have h2 : PA R [(inn R (n + 1) b, inn R (n + 2) (b + 1), inn R (n + 1) (b + 1))] (720720 / R.m * (720720 / R.m)) := pa_one hR (vs_inner (by omega) (by omega)) (vs_inner (by omega) (by omega)) (vs_inner (by omega) (by omega)) rfl rfl rfl (area_m2 hR (n + 1) b) hp
    have h := pa_app h1 h2
    rw [← Nat.two_mul] at h
    exact h
theorem midN_pa {R : Rt} (hR : R.ok) (hm2 : 2 ≤ R.m) : ∀ n, n + 1 < R.m → PA R (midN R n) (n * ((R.m - 2) * (2 * (720720 / R.m * (720720 / R.m))))) := by
  intro n
  induction n with
  | zero => intro _; rw [Nat.zero_mul]; exact pa_nil R
  | succ n ih =>
    intro hn
    rw [midN, List.range_succ, List.flatMap_append, Nat.succ_mul]
    refine pa_app (ih (by omega)) ?_
    have h := midR_pa hR (b := n + 1) ⟨by omega, by omega⟩ (R.m - 2) (by omega)
    simpa using h
theorem stripF_pa {R : Rt} (hR : R.ok) (hm2 : 2 ≤ R.m) {k : Nat} (hk : k < 4) : ∀ f i t, i ≤ R.r k → 1 ≤ t → t < R.m → f = (R.r k - i) + (R.m - 1 - t) →
    PA R (stripF R k f i t) ((R.r k - i) * (720720 / R.r k * (720720 / R.m)) + (R.m - 1 - t) * (720720 / R.m * (720720 / R.m))) := by
  have hm := Rt.ok_m hR
  have hr := Rt.ok_r hR k
  have hp := Nat.mul_pos (part_pos hm.1 hm.2) (part_pos hm.1 hm.2)
  have hq := Nat.mul_pos (part_pos hr.1 hr.2.1) (part_pos hm.1 hm.2)
  intro f
  induction f with
  | zero =>
    intro i t hi ht1 ht2 hf
    rw [show R.r k - i = 0 by omega, show R.m - 1 - t = 0 by omega, Nat.zero_mul, Nat.zero_mul]
    exact pa_nil R
  | succ f ih =>
    intro i t hi ht1 ht2 hf
    rw [stripF]
    split
    · rename_i hT
      have hi2 : i < R.r k := by
        unfold takeO at hT
        rw [Bool.and_eq_true] at hT
        exact of_decide_eq_true hT.1
      have h := pa_app (pa_one hR (ouS_vs hk (by omega : i ≤ R.r k)) (ouS_vs hk (by omega : i + 1 ≤ R.r k)) (vs_bes (k := k) ⟨ht1, ht2⟩) (ouS_nm R k i) (ouS_nm R k (i + 1)) rfl (by rw [area_o hR hk hi2 ⟨ht1, ht2⟩, Int.natCast_mul]) hq) (ih (i + 1) t hi2 ht1 ht2 (by omega))
      rw [show R.r k - i = (R.r k - (i + 1)) + 1 by omega, Nat.succ_mul]
      refine cast ?_ h
      congr 1
      omega
    · rename_i hT
      have hi2 : t + 1 < R.m := by
        by_cases e : t + 1 < R.m
        · exact e
        · refine absurd ?_ hT
          unfold takeO
          rw [Bool.and_eq_true, Bool.or_eq_true]
          exact ⟨decide_eq_true (by omega), .inl (decide_eq_true (by omega))⟩
      have h := pa_app (pa_one hR (ouS_vs hk (by omega : i ≤ R.r k)) (vs_bes (k := k) ⟨by omega, hi2⟩) (vs_bes (k := k) ⟨ht1, ht2⟩) (ouS_nm R k i) rfl rfl (by rw [area_t hR hk hi ⟨ht1, hi2⟩, Int.natCast_mul]) hp) (ih i (t + 1) hi (by omega) hi2 (by omega))
      rw [show R.m - 1 - t = (R.m - 1 - (t + 1)) + 1 by omega, Nat.succ_mul]
      refine cast ?_ h
      congr 1
      omega
theorem area_sum0 : ∀ m, m < 17 → 2 ≤ m → (m - 2) * ((m - 2) * (2 * (720720 / m * (720720 / m)))) + 4 * (720720 * (720720 / m) + (m - 2) * (720720 / m * (720720 / m))) = 2 * 720720 * 720720 := by decide
theorem tris_pa {R : Rt} (hR : R.ok) : PA R (trisN R) (2 * 720720 * 720720) := by
  have hm := Rt.ok_m hR
  by_cases e : R.m = 1
  · rw [trisN, if_pos e]
    have h1 : PA R [(0, 1, 2)] (720720 * 720720) := pa_one hR (vs_corn (k := 0) (by omega)) (vs_corn (k := 1) (by omega)) (vs_corn (k := 2) (by omega)) (nm_corn R 0) (nm_corn R 1) (nm_corn R 2) (by simp [cr, pl, pk]) (by decide)
    have h2 : PA R [(0, 2, 3)] (720720 * 720720) := pa_one hR (vs_corn (k := 0) (by omega)) (vs_corn (k := 2) (by omega)) (vs_corn (k := 3) (by omega)) (nm_corn R 0) (nm_corn R 2) (nm_corn R 3) (by simp [cr, pl, pk]) (by decide)
    exact pa_app h1 h2
  · rw [trisN, if_neg e]
    have hs : ∀ k, k < 4 → PA R (stripN R k) (720720 * (720720 / R.m) + (R.m - 2) * (720720 / R.m * (720720 / R.m))) := by
      intro k hk
      have hr := Rt.ok_r hR k
      have h := stripF_pa hR (by omega) hk (R.r k + (R.m - 2)) 0 1 (by omega) (by omega) (by omega) (by omega)
      rw [Nat.sub_zero, ← Nat.mul_assoc, part_mul _ hr.1 hr.2.1, show R.m - 1 - 1 = R.m - 2 by omega] at h
      exact h
    have h := pa_app (midN_pa hR (by omega) (R.m - 2) (by omega)) (pa_app (hs 0 (by omega)) (pa_app (hs 1 (by omega)) (pa_app (hs 2 (by omega)) (hs 3 (by omega)))))
    have hl : (List.range 4).flatMap (stripN R) = stripN R 0 ++ (stripN R 1 ++ (stripN R 2 ++ stripN R 3)) := by
      rw [show List.range 4 = [0, 1, 2, 3] from rfl]; simp
    rw [hl]
    refine cast ?_ h
    congr 1
    rw [← area_sum0 R.m (by omega) (by omega)]
    omega
theorem sumA_take {R : Rt} (l : List T3) (h : ∀ t ∈ l, 0 < ar R t) (j : Nat) : 0 ≤ sumA R (l.take j) ∧ sumA R (l.take j) ≤ sumA R l := by
  have key : ∀ l : List T3, (∀ t ∈ l, 0 < ar R t) → 0 ≤ sumA R l := by
    intro l
    induction l with
    | nil => intro _; exact Int.le_refl 0
    | cons t l ih =>
      intro h
      have h1 := h t (List.mem_cons_self ..)
      have h2 := ih fun s hs => h s (List.mem_cons_of_mem _ hs)
      rw [sumA]; omega
  have h1 := key (l.take j) fun t ht => h t (List.mem_of_mem_take ht)
  have h2 := key (l.drop j) fun t ht => h t (List.mem_of_mem_drop ht)
  have e : sumA R l = sumA R (l.take j) + sumA R (l.drop j) := by rw [← sumA_app, List.take_append_drop]
  omega
theorem sumA_next {R : Rt} (l : List T3) (j : Nat) (hj : j < l.length) : sumA R (l.take (j + 1)) = sumA R (l.take j) + ar R l[j] := by
  rw [List.take_succ_eq_append_getElem hj, sumA_app]; simp [sumA]
/-- A place lies in the square. -/
theorem pk_le {k x : Nat} (h : x ≤ 720720) : (pk k x).1 ≤ 720720 ∧ (pk k x).2 ≤ 720720 := by
  unfold pk
  split
  · exact ⟨h, Nat.zero_le _⟩
  · split
    · exact ⟨Nat.le_refl _, h⟩
    · split
      · exact ⟨Nat.sub_le .., Nat.le_refl _⟩
      · exact ⟨Nat.zero_le _, Nat.sub_le ..⟩
theorem part_le {a m : Nat} (h0 : 1 ≤ m) (h : a ≤ m) : a * 720720 / m ≤ 720720 := by
  refine Nat.div_le_of_le_mul ?_
  exact Nat.mul_le_mul_right _ h
theorem pl_le {R : Rt} (hR : R.ok) {s : T3} (h : vs R s) : (pl R s).1 ≤ 720720 ∧ (pl R s).2 ≤ 720720 := by
  have hm := Rt.ok_m hR
  unfold pl
  rcases h with ⟨h1, h2, h3⟩ | ⟨h1, h2, h3, h4⟩ | ⟨h1, h2, h3⟩
  · rw [if_neg (by omega), if_neg (by omega)]; exact pk_le (Nat.zero_le _)
  · rw [if_neg (by omega), if_pos h1]; exact pk_le (part_le (Rt.ok_r hR _).1 (by omega))
  · rw [if_pos h1]; exact ⟨part_le hm.1 (by omega), part_le hm.1 (by omega)⟩
end Go.Proofs.Ytoalihdempcbjaa
