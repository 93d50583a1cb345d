/- weave is tight, plain: the directed edges, by spots; each once, each but a side's part once each way. -/
import Derived.Test.YtoalihdempcbjaaWFlatL
import Derived.Test.YtoalihdempcbjaaWvL
namespace Go.Proofs.Ytoalihdempcbjaa
open Go.RowKit
set_option maxRecDepth 100000
set_option linter.unusedSimpArgs false
set_option linter.unusedVariables false
abbrev E2 := T3 × T3
def eA (R : Rt) (k i : Nat) : E2 := (ouS R k i, ouS R k (i + 1))
def eB (R : Rt) (k t : Nat) : E2 := (besS R.m k (t + 1), besS R.m k t)
def eI (R : Rt) (k i t : Nat) : E2 := (besS R.m k t, ouS R k i)
def eO (R : Rt) (k i t : Nat) : E2 := (ouS R k i, besS R.m k t)
def stE (R : Rt) (k : Nat) : Nat → Nat → Nat → List E2
  | 0, _, _ => []
  | f + 1, i, t => if takeO R k i t then eA R k i :: eO R k (i + 1) t :: eI R k i t :: stE R k f (i + 1) t else eO R k i (t + 1) :: eB R k t :: eI R k i t :: stE R k f i (t + 1)
theorem ouS_k (R : Rt) (k i : Nat) : (ouS R k i).1 ≠ 3 := by
  unfold ouS; split
  · simp
  · split <;> simp
theorem besS_k (m k t : Nat) : (besS m k t).1 = 3 := by
  unfold besS; split
  · rfl
  · split
    · rfl
    · split <;> rfl
theorem ouS_inj {R : Rt} {k k' i i' : Nat} (hk : k < 4) (hk' : k' < 4) (hi : i ≤ R.r k) (hi' : i' ≤ R.r k') (h : 1 ≤ R.r k) (h' : 1 ≤ R.r k') (e : ouS R k i = ouS R k' i') :
    (k = k' ∧ i = i') ∨ (i = R.r k ∧ i' = 0 ∧ k' = (k + 1) % 4) ∨ (i = 0 ∧ i' = R.r k' ∧ k = (k' + 1) % 4) := by
  unfold ouS at e
  split at e
  · split at e
    · simp only [Prod.mk.injEq] at e; omega
    · split at e
      · simp only [Prod.mk.injEq] at e; omega
      · simp only [Prod.mk.injEq] at e; omega
  · split at e
    · split at e
      · simp only [Prod.mk.injEq] at e; omega
      · split at e
        · simp only [Prod.mk.injEq] at e
          have : k = k' := by omega
          subst this
          omega
        · simp only [Prod.mk.injEq] at e; omega
    · split at e
      · simp only [Prod.mk.injEq] at e; omega
      · split at e
        · simp only [Prod.mk.injEq] at e; omega
        · simp only [Prod.mk.injEq] at e; omega
theorem besS_cases (m : Nat) {k : Nat} (hk : k < 4) (t : Nat) : (k = 0 ∧ besS m k t = (3, t, 1)) ∨ (k = 1 ∧ besS m k t = (3, m - 1, t)) ∨ (k = 2 ∧ besS m k t = (3, m - t, m - 1)) ∨ (k = 3 ∧ besS m k t = (3, 1, m - t)) := by
  match k, hk with
  | 0, _ => exact .inl ⟨rfl, rfl⟩
  | 1, _ => exact .inr (.inl ⟨rfl, rfl⟩)
  | 2, _ => exact .inr (.inr (.inl ⟨rfl, rfl⟩))
  | 3, _ => exact .inr (.inr (.inr ⟨rfl, rfl⟩))
theorem besS_inj {m k t t' : Nat} (hk : k < 4) (h : 1 ≤ t ∧ t < m) (h' : 1 ≤ t' ∧ t' < m) (e : besS m k t = besS m k t') : t = t' := by
  rcases besS_cases m hk t with ⟨q, x⟩ | ⟨q, x⟩ | ⟨q, x⟩ | ⟨q, x⟩ <;> rcases besS_cases m hk t' with ⟨q', y⟩ | ⟨q', y⟩ | ⟨q', y⟩ | ⟨q', y⟩ <;> first | (exfalso; omega) | (rw [x, y] at e; simp only [Prod.mk.injEq] at e; omega)
theorem besS_next {m k k' t t' : Nat} (hk : k < 4) (hk' : k' = (k + 1) % 4) (h : 1 ≤ t ∧ t < m) (h' : 1 ≤ t' ∧ t' < m) (e : besS m k t = besS m k' t') : t = m - 1 ∧ t' = 1 := by
  have hk2 : k' < 4 := by omega
  rcases besS_cases m hk t with ⟨q, x⟩ | ⟨q, x⟩ | ⟨q, x⟩ | ⟨q, x⟩ <;> rcases besS_cases m hk2 t' with ⟨q', y⟩ | ⟨q', y⟩ | ⟨q', y⟩ | ⟨q', y⟩ <;> first | (exfalso; omega) | (rw [x, y] at e; simp only [Prod.mk.injEq] at e; omega)
theorem besS_meet {m k : Nat} (hk : k < 4) (hm : 2 ≤ m) : besS m k (m - 1) = besS m ((k + 1) % 4) 1 := by
  match k, hk with
  | 0, _ => rfl
  | 1, _ => rfl
  | 2, _ => show (3, m - (m - 1), m - 1) = (3, 1, m - 1); rw [show m - (m - 1) = 1 by omega]
  | 3, _ => show (3, 1, m - (m - 1)) = (3, 1, 1); rw [show m - (m - 1) = 1 by omega]
theorem eB_inj {R : Rt} {k k' t t' : Nat} (hk : k < 4) (hk' : k' < 4) (h : 1 ≤ t ∧ t + 1 < R.m) (h' : 1 ≤ t' ∧ t' + 1 < R.m) (e : eB R k t = eB R k' t') : k = k' ∧ t = t' := by
  simp only [eB, Prod.mk.injEq] at e
  obtain ⟨e1, e2⟩ := e
  rcases besS_cases R.m hk t with ⟨q, x⟩ | ⟨q, x⟩ | ⟨q, x⟩ | ⟨q, x⟩ <;> rcases besS_cases R.m hk' t' with ⟨q', y⟩ | ⟨q', y⟩ | ⟨q', y⟩ | ⟨q', y⟩ <;>
    rcases besS_cases R.m hk (t + 1) with ⟨q2, x2⟩ | ⟨q2, x2⟩ | ⟨q2, x2⟩ | ⟨q2, x2⟩ <;> first | (exfalso; omega) | skip
  all_goals rcases besS_cases R.m hk' (t' + 1) with ⟨q2', y2⟩ | ⟨q2', y2⟩ | ⟨q2', y2⟩ | ⟨q2', y2⟩ <;> first | (exfalso; omega) | (rw [x, y] at e2; rw [x2, y2] at e1; simp only [Prod.mk.injEq] at e1 e2; omega)
/-- What an edge of a strip is. -/
def inSt (R : Rt) (k i t : Nat) (e : E2) : Prop :=
  (∃ i', i ≤ i' ∧ i' < R.r k ∧ e = eA R k i') ∨ (∃ t', t ≤ t' ∧ t' + 1 < R.m ∧ e = eB R k t') ∨ (∃ i' t', i ≤ i' ∧ t ≤ t' ∧ i' ≤ R.r k ∧ t' < R.m ∧ ¬ (i' = R.r k ∧ t' + 1 = R.m) ∧ e = eI R k i' t') ∨ (∃ i' t', i ≤ i' ∧ t ≤ t' ∧ i' ≤ R.r k ∧ t' < R.m ∧ ¬ (i' = i ∧ t' = t) ∧ e = eO R k i' t')
theorem take_lt {R : Rt} {k i t : Nat} (h : takeO R k i t = true) : i < R.r k := by
  unfold takeO at h; rw [Bool.and_eq_true] at h; exact of_decide_eq_true h.1
theorem take_not {R : Rt} {k i t : Nat} (h : ¬ takeO R k i t = true) (hi : i ≤ R.r k) (ht : t < R.m) (hf : ¬ (i = R.r k ∧ t + 1 = R.m)) : t + 1 < R.m := by
  by_cases e : t + 1 < R.m
  · exact e
  · refine absurd ?_ h
    unfold takeO
    rw [Bool.and_eq_true, Bool.or_eq_true]
    exact ⟨decide_eq_true (by omega), .inl (decide_eq_true (by omega))⟩
theorem st_mem {R : Rt} {k : Nat} : ∀ f i t, i ≤ R.r k → 1 ≤ t → t < R.m → f = (R.r k - i) + (R.m - 1 - t) → ∀ e ∈ stE R k f i t, inSt R k i t e := by
  intro f
  induction f with
  | zero => intro i t _ _ _ _ e h; exact absurd h List.not_mem_nil
  | succ f ih =>
    intro i t hi ht1 ht2 hf e h
    rw [stE] at h
    split at h
    · rename_i hT
      have hl := take_lt hT
      simp only [List.mem_cons] at h
      rcases h with rfl | rfl | rfl | h
      · exact .inl ⟨i, by omega, hl, rfl⟩
      · exact .inr (.inr (.inr ⟨i + 1, t, by omega, by omega, by omega, by omega, by omega, rfl⟩))
      · exact .inr (.inr (.inl ⟨i, t, by omega, by omega, by omega, by omega, by omega, rfl⟩))
      · rcases ih (i + 1) t hl ht1 ht2 (by omega) e h with ⟨i', a, b, c⟩ | ⟨t', a, b, c⟩ | ⟨i', t', a, b, c, d, g, j⟩ | ⟨i', t', a, b, c, d, g, j⟩
        · exact .inl ⟨i', by omega, b, c⟩
        · exact .inr (.inl ⟨t', a, b, c⟩)
        · exact .inr (.inr (.inl ⟨i', t', by omega, b, c, d, g, j⟩))
        · exact .inr (.inr (.inr ⟨i', t', by omega, b, c, d, by omega, j⟩))
    · rename_i hT
      have hl := take_not hT hi ht2 (by omega)
      simp only [List.mem_cons] at h
      rcases h with rfl | rfl | rfl | h
      · exact .inr (.inr (.inr ⟨i, t + 1, by omega, by omega, by omega, by omega, by omega, rfl⟩))
      · exact .inr (.inl ⟨t, by omega, hl, rfl⟩)
      · exact .inr (.inr (.inl ⟨i, t, by omega, by omega, by omega, by omega, by omega, rfl⟩))
      · rcases ih i (t + 1) hi (by omega) hl (by omega) e h with ⟨i', a, b, c⟩ | ⟨t', a, b, c⟩ | ⟨i', t', a, b, c, d, g, j⟩ | ⟨i', t', a, b, c, d, g, j⟩
        · exact .inl ⟨i', by omega, b, c⟩
        · exact .inr (.inl ⟨t', by omega, b, c⟩)
        · exact .inr (.inr (.inl ⟨i', t', by omega, by omega, c, d, g, j⟩))
        · exact .inr (.inr (.inr ⟨i', t', by omega, by omega, c, d, by omega, j⟩))
/-- Kinds of edges differ by the kinds of their ends. -/
theorem AB_ne (R : Rt) (k i k' t : Nat) : eA R k i ≠ eB R k' t := fun h => ouS_k R k i (by have := congrArg (fun e : E2 => e.1.1) h; simp only [eA, eB] at this; rw [this]; exact besS_k ..)
theorem AI_ne (R : Rt) (k i k' i' t : Nat) : eA R k i ≠ eI R k' i' t := fun h => ouS_k R k i (by have := congrArg (fun e : E2 => e.1.1) h; simp only [eA, eI] at this; rw [this]; exact besS_k ..)
theorem AO_ne (R : Rt) (k i k' i' t : Nat) : eA R k i ≠ eO R k' i' t := fun h => ouS_k R k (i + 1) (by have := congrArg (fun e : E2 => e.2.1) h; simp only [eA, eO] at this; rw [this]; exact besS_k ..)
theorem BI_ne (R : Rt) (k t k' i' t' : Nat) : eB R k t ≠ eI R k' i' t' := fun h => ouS_k R k' i' (by have := congrArg (fun e : E2 => e.2.1) h; simp only [eB, eI] at this; rw [← this]; exact besS_k ..)
theorem BO_ne (R : Rt) (k t k' i' t' : Nat) : eB R k t ≠ eO R k' i' t' := fun h => ouS_k R k' i' (by have := congrArg (fun e : E2 => e.1.1) h; simp only [eB, eO] at this; rw [← this]; exact besS_k ..)
theorem IO_ne (R : Rt) (k i t k' i' t' : Nat) : eI R k i t ≠ eO R k' i' t' := fun h => ouS_k R k' i' (by have := congrArg (fun e : E2 => e.1.1) h; simp only [eI, eO] at this; rw [← this]; exact besS_k ..)
theorem eA_inj {R : Rt} (hR : R.ok) {k k' i i' : Nat} (hk : k < 4) (hk' : k' < 4) (h : i < R.r k) (h' : i' < R.r k') (e : eA R k i = eA R k' i') : k = k' ∧ i = i' := by
  have e1 := congrArg Prod.fst e
  have := ouS_inj hk hk' (by omega) (by omega) (Rt.ok_r hR k).1 (Rt.ok_r hR k').1 e1
  omega
theorem eI_inj {R : Rt} (hR : R.ok) {k k' i i' t t' : Nat} (hk : k < 4) (hk' : k' < 4) (h : i ≤ R.r k) (h' : i' ≤ R.r k') (ht : 1 ≤ t ∧ t < R.m) (ht' : 1 ≤ t' ∧ t' < R.m) (e : eI R k i t = eI R k' i' t') :
    (k = k' ∧ i = i' ∧ t = t') ∨ (i = R.r k ∧ t + 1 = R.m ∧ i' = 0 ∧ t' = 1 ∧ k ≠ k') ∨ (i' = R.r k' ∧ t' + 1 = R.m ∧ i = 0 ∧ t = 1 ∧ k ≠ k') := by
  have e1 : besS R.m k t = besS R.m k' t' := congrArg Prod.fst e
  have e2 : ouS R k i = ouS R k' i' := congrArg Prod.snd e
  rcases ouS_inj hk hk' h h' (Rt.ok_r hR k).1 (Rt.ok_r hR k').1 e2 with ⟨rfl, rfl⟩ | ⟨a, b, c⟩ | ⟨a, b, c⟩
  · exact .inl ⟨rfl, rfl, besS_inj hk ht ht' e1⟩
  · have := besS_next hk c ht ht' e1
    exact .inr (.inl ⟨a, by omega, b, this.2, by omega⟩)
  · have := besS_next hk' c ht' ht e1.symm
    exact .inr (.inr ⟨b, by omega, a, this.2, by omega⟩)
theorem eO_inj {R : Rt} (hR : R.ok) {k k' i i' t t' : Nat} (hk : k < 4) (hk' : k' < 4) (h : i ≤ R.r k) (h' : i' ≤ R.r k') (ht : 1 ≤ t ∧ t < R.m) (ht' : 1 ≤ t' ∧ t' < R.m) (e : eO R k i t = eO R k' i' t') :
    (k = k' ∧ i = i' ∧ t = t') ∨ (i = R.r k ∧ t + 1 = R.m ∧ i' = 0 ∧ t' = 1 ∧ k ≠ k') ∨ (i' = R.r k' ∧ t' + 1 = R.m ∧ i = 0 ∧ t = 1 ∧ k ≠ k') :=
  eI_inj hR hk hk' h h' ht ht' (by have := congrArg Prod.swap e; exact this)
/-- Two edges of a strip, or of two, that are the same: the same place. -/
theorem st_apart {R : Rt} (hR : R.ok) {k k' : Nat} (hk : k < 4) (hk' : k' < 4) (hn : k ≠ k') {e : E2} (h : inSt R k 0 1 e) (h' : inSt R k' 0 1 e) : False := by
  rcases h with ⟨i, a, b, rfl⟩ | ⟨t, a, b, rfl⟩ | ⟨i, t, a, b, c, d, g, rfl⟩ | ⟨i, t, a, b, c, d, g, rfl⟩ <;> rcases h' with ⟨i', a', b', e'⟩ | ⟨t', a', b', e'⟩ | ⟨i', t', a', b', c', d', g', e'⟩ | ⟨i', t', a', b', c', d', g', e'⟩
  · exact hn (eA_inj hR hk hk' b b' e').1
  · exact AB_ne _ _ _ _ _ e'
  · exact AI_ne _ _ _ _ _ _ e'
  · exact AO_ne _ _ _ _ _ _ e'
  · exact AB_ne _ _ _ _ _ e'.symm
  · exact hn (eB_inj hk hk' ⟨a, b⟩ ⟨a', b'⟩ e').1
  · exact BI_ne _ _ _ _ _ _ e'
  · exact BO_ne _ _ _ _ _ _ e'
  · exact AI_ne _ _ _ _ _ _ e'.symm
  · exact BI_ne _ _ _ _ _ _ e'.symm
  · have := eI_inj hR hk hk' c c' ⟨b, d⟩ ⟨b', d'⟩ e'; omega
  · exact IO_ne _ _ _ _ _ _ _ e'
  · exact AO_ne _ _ _ _ _ _ e'.symm
  · exact BO_ne _ _ _ _ _ _ e'.symm
  · exact IO_ne _ _ _ _ _ _ _ e'.symm
  · have := eO_inj hR hk hk' c c' ⟨b, d⟩ ⟨b', d'⟩ e'; omega
theorem st_nodup {R : Rt} (hR : R.ok) {k : Nat} (hk : k < 4) : ∀ f i t, i ≤ R.r k → 1 ≤ t → t < R.m → f = (R.r k - i) + (R.m - 1 - t) → (stE R k f i t).Nodup := by
  intro f
  induction f with
  | zero => intro i t _ _ _ _; exact List.nodup_nil
  | succ f ih =>
    intro i t hi ht1 ht2 hf
    rw [stE]
    split
    · rename_i hT
      have hl := take_lt hT
      have hM := st_mem f (i + 1) t hl ht1 ht2 (by omega)
      rw [List.nodup_cons, List.nodup_cons, List.nodup_cons]
      refine ⟨fun h => ?_, fun h => ?_, fun h => ?_, ih (i + 1) t hl ht1 ht2 (by omega)⟩
      · simp only [List.mem_cons] at h
        rcases h with h | h | h
        · exact AO_ne _ _ _ _ _ _ h
        · exact AI_ne _ _ _ _ _ _ h
        · rcases hM _ h with ⟨i', a', b', e'⟩ | ⟨t', a', b', e'⟩ | ⟨i', t', a', b', c', d', g', e'⟩ | ⟨i', t', a', b', c', d', g', e'⟩
          · have := eA_inj hR hk hk hl b' e'; omega
          · exact AB_ne _ _ _ _ _ e'
          · exact AI_ne _ _ _ _ _ _ e'
          · exact AO_ne _ _ _ _ _ _ e'
      · simp only [List.mem_cons] at h
        rcases h with h | h
        · exact IO_ne _ _ _ _ _ _ _ h.symm
        · rcases hM _ h with ⟨i', a', b', e'⟩ | ⟨t', a', b', e'⟩ | ⟨i', t', a', b', c', d', g', e'⟩ | ⟨i', t', a', b', c', d', g', e'⟩
          · exact AO_ne _ _ _ _ _ _ e'.symm
          · exact BO_ne _ _ _ _ _ _ e'.symm
          · exact IO_ne _ _ _ _ _ _ _ e'.symm
          · have := eO_inj hR hk hk (by omega) c' ⟨ht1, ht2⟩ ⟨by omega, d'⟩ e'; omega
      · rcases hM _ h with ⟨i', a', b', e'⟩ | ⟨t', a', b', e'⟩ | ⟨i', t', a', b', c', d', g', e'⟩ | ⟨i', t', a', b', c', d', g', e'⟩
        · exact AI_ne _ _ _ _ _ _ e'.symm
        · exact BI_ne _ _ _ _ _ _ e'.symm
        · have := eI_inj hR hk hk (by omega) c' ⟨ht1, ht2⟩ ⟨by omega, d'⟩ e'; omega
        · exact IO_ne _ _ _ _ _ _ _ e'
    · rename_i hT
      have hl := take_not hT hi ht2 (by omega)
      have hM := st_mem f i (t + 1) hi (by omega) hl (by omega)
      rw [List.nodup_cons, List.nodup_cons, List.nodup_cons]
      refine ⟨fun h => ?_, fun h => ?_, fun h => ?_, ih i (t + 1) hi (by omega) hl (by omega)⟩
      · simp only [List.mem_cons] at h
        rcases h with h | h | h
        · exact BO_ne _ _ _ _ _ _ h.symm
        · exact IO_ne _ _ _ _ _ _ _ h.symm
        · rcases hM _ h with ⟨i', a', b', e'⟩ | ⟨t', a', b', e'⟩ | ⟨i', t', a', b', c', d', g', e'⟩ | ⟨i', t', a', b', c', d', g', e'⟩
          · exact AO_ne _ _ _ _ _ _ e'.symm
          · exact BO_ne _ _ _ _ _ _ e'.symm
          · exact IO_ne _ _ _ _ _ _ _ e'.symm
          · have := eO_inj hR hk hk (by omega) c' ⟨by omega, hl⟩ ⟨by omega, d'⟩ e'; omega
      · simp only [List.mem_cons] at h
        rcases h with h | h
        · exact BI_ne _ _ _ _ _ _ h
        · rcases hM _ h with ⟨i', a', b', e'⟩ | ⟨t', a', b', e'⟩ | ⟨i', t', a', b', c', d', g', e'⟩ | ⟨i', t', a', b', c', d', g', e'⟩
          · exact AB_ne _ _ _ _ _ e'.symm
          · have := eB_inj hk hk ⟨ht1, hl⟩ ⟨by omega, b'⟩ e'; omega
          · exact BI_ne _ _ _ _ _ _ e'
          · exact BO_ne _ _ _ _ _ _ e'
      · rcases hM _ h with ⟨i', a', b', e'⟩ | ⟨t', a', b', e'⟩ | ⟨i', t', a', b', c', d', g', e'⟩ | ⟨i', t', a', b', c', d', g', e'⟩
        · exact AI_ne _ _ _ _ _ _ e'.symm
        · exact BI_ne _ _ _ _ _ _ e'.symm
        · have := eI_inj hR hk hk (by omega) c' ⟨ht1, ht2⟩ ⟨by omega, d'⟩ e'; omega
        · exact IO_ne _ _ _ _ _ _ _ e'
theorem st_A {R : Rt} {k : Nat} : ∀ f i t, i ≤ R.r k → 1 ≤ t → t < R.m → f = (R.r k - i) + (R.m - 1 - t) → ∀ i', i ≤ i' → i' < R.r k → eA R k i' ∈ stE R k f i t := by
  intro f
  induction f with
  | zero => intro i t _ _ _ _ i' _ _; omega
  | succ f ih =>
    intro i t hi ht1 ht2 hf i' h1 h2
    rw [stE]
    split
    · rename_i hT
      by_cases e : i' = i
      · subst e; exact List.mem_cons_self
      · exact List.mem_cons_of_mem _ (List.mem_cons_of_mem _ (List.mem_cons_of_mem _ (ih (i + 1) t (take_lt hT) ht1 ht2 (by omega) i' (by omega) h2)))
    · rename_i hT
      have hl := take_not hT hi ht2 (by omega)
      exact List.mem_cons_of_mem _ (List.mem_cons_of_mem _ (List.mem_cons_of_mem _ (ih i (t + 1) hi (by omega) hl (by omega) i' h1 h2)))
theorem st_B {R : Rt} {k : Nat} : ∀ f i t, i ≤ R.r k → 1 ≤ t → t < R.m → f = (R.r k - i) + (R.m - 1 - t) → ∀ t', t ≤ t' → t' + 1 < R.m → eB R k t' ∈ stE R k f i t := by
  intro f
  induction f with
  | zero => intro i t _ _ _ _ i' _ _; omega
  | succ f ih =>
    intro i t hi ht1 ht2 hf t' h1 h2
    rw [stE]
    split
    · rename_i hT
      have hl := take_lt hT
      exact List.mem_cons_of_mem _ (List.mem_cons_of_mem _ (List.mem_cons_of_mem _ (ih (i + 1) t hl ht1 ht2 (by omega) t' h1 h2)))
    · rename_i hT
      have hl := take_not hT hi ht2 (by omega)
      by_cases e : t' = t
      · subst e; exact List.mem_cons_of_mem _ List.mem_cons_self
      · exact List.mem_cons_of_mem _ (List.mem_cons_of_mem _ (List.mem_cons_of_mem _ (ih i (t + 1) hi (by omega) hl (by omega) t' (by omega) h2)))
theorem st_I {R : Rt} {k f i t : Nat} (hi : i ≤ R.r k) (ht : t < R.m) (hf : f = (R.r k - i) + (R.m - 1 - t)) (h0 : 0 < f) : eI R k i t ∈ stE R k f i t := by
  match f, h0 with
  | f + 1, _ =>
    rw [stE]
    split
    · exact List.mem_cons_of_mem _ (List.mem_cons_of_mem _ List.mem_cons_self)
    · exact List.mem_cons_of_mem _ (List.mem_cons_of_mem _ List.mem_cons_self)
theorem st_O {R : Rt} {k : Nat} : ∀ f i t, i ≤ R.r k → 1 ≤ t → t < R.m → f = (R.r k - i) + (R.m - 1 - t) → 0 < f → eO R k (R.r k) (R.m - 1) ∈ stE R k f i t := by
  intro f
  induction f with
  | zero => intro i t _ _ _ _ h; omega
  | succ f ih =>
    intro i t hi ht1 ht2 hf _
    rw [stE]
    split
    · rename_i hT
      have hl := take_lt hT
      by_cases e : f = 0
      · rw [show i + 1 = R.r k by omega, show t = R.m - 1 by omega]
        exact List.mem_cons_of_mem _ List.mem_cons_self
      · exact List.mem_cons_of_mem _ (List.mem_cons_of_mem _ (List.mem_cons_of_mem _ (ih (i + 1) t hl ht1 ht2 (by omega) (by omega))))
    · rename_i hT
      have hl := take_not hT hi ht2 (by omega)
      by_cases e : f = 0
      · rw [show i = R.r k by omega, show t + 1 = R.m - 1 by omega]
        exact List.mem_cons_self
      · exact List.mem_cons_of_mem _ (List.mem_cons_of_mem _ (List.mem_cons_of_mem _ (ih i (t + 1) hi (by omega) hl (by omega) (by omega))))
/-- A strip's edges turned back. -/
theorem st_back {R : Rt} {k : Nat} : ∀ f i t, i ≤ R.r k → 1 ≤ t → t < R.m → f = (R.r k - i) + (R.m - 1 - t) → ∀ e ∈ stE R k f i t,
    (∃ i', i' < R.r k ∧ e = eA R k i') ∨ (∃ t', 1 ≤ t' ∧ t' + 1 < R.m ∧ e = eB R k t') ∨ e = eI R k i t ∨ e = eO R k (R.r k) (R.m - 1) ∨ e.swap ∈ stE R k f i t := by
  intro f
  induction f with
  | zero => intro i t _ _ _ _ e h; exact absurd h List.not_mem_nil
  | succ f ih =>
    intro i t hi ht1 ht2 hf e h
    rw [stE] at h ⊢
    split at h
    · rename_i hT
      rw [if_pos hT]
      have hl := take_lt hT
      simp only [List.mem_cons] at h ⊢
      rcases h with rfl | rfl | rfl | h
      · exact .inl ⟨i, hl, rfl⟩
      · by_cases z : f = 0
        · rw [show i + 1 = R.r k by omega, show t = R.m - 1 by omega]; exact .inr (.inr (.inr (.inl rfl)))
        · exact .inr (.inr (.inr (.inr (.inr (.inr (.inr (st_I hl ht2 (by omega) (by omega))))))))
      · exact .inr (.inr (.inl rfl))
      · rcases ih (i + 1) t hl ht1 ht2 (by omega) e h with h | h | h | h | h
        · exact .inl h
        · exact .inr (.inl h)
        · rw [h]; exact .inr (.inr (.inr (.inr (.inr (.inl rfl)))))
        · exact .inr (.inr (.inr (.inl h)))
        · exact .inr (.inr (.inr (.inr (.inr (.inr (.inr h))))))
    · rename_i hT
      rw [if_neg hT]
      have hl := take_not hT hi ht2 (by omega)
      simp only [List.mem_cons] at h ⊢
      rcases h with rfl | rfl | rfl | h
      · by_cases z : f = 0
        · rw [show i = R.r k by omega, show t + 1 = R.m - 1 by omega]; exact .inr (.inr (.inr (.inl rfl)))
        · exact .inr (.inr (.inr (.inr (.inr (.inr (.inr (st_I hi hl (by omega) (by omega))))))))
      · exact .inr (.inl ⟨t, ht1, hl, rfl⟩)
      · exact .inr (.inr (.inl rfl))
      · rcases ih i (t + 1) hi (by omega) hl (by omega) e h with h | h | h | h | h
        · exact .inl h
        · exact .inr (.inl h)
        · rw [h]; exact .inr (.inr (.inr (.inr (.inl rfl))))
        · exact .inr (.inr (.inr (.inl h)))
        · exact .inr (.inr (.inr (.inr (.inr (.inr (.inr h))))))
/-- The edges of a cell of the middle. -/
def ceE (b a : Nat) : List E2 := [((3, a, b), (3, a + 1, b)), ((3, a + 1, b), (3, a + 1, b + 1)), ((3, a + 1, b + 1), (3, a, b)), ((3, a, b), (3, a + 1, b + 1)), ((3, a + 1, b + 1), (3, a, b + 1)), ((3, a, b + 1), (3, a, b))]
theorem ce_mem {a b : Nat} {e : E2} (h : e ∈ ceE b a) : e = ((3, a, b), (3, a + 1, b)) ∨ e = ((3, a + 1, b), (3, a + 1, b + 1)) ∨ e = ((3, a + 1, b + 1), (3, a, b)) ∨ e = ((3, a, b), (3, a + 1, b + 1)) ∨ e = ((3, a + 1, b + 1), (3, a, b + 1)) ∨ e = ((3, a, b + 1), (3, a, b)) := by
  simpa only [ceE, List.mem_cons, List.not_mem_nil, or_false] using h
theorem ce_inj {a b a' b' : Nat} {e : E2} (h : e ∈ ceE b a) (h' : e ∈ ceE b' a') : a = a' ∧ b = b' := by
  rcases ce_mem h with rfl | rfl | rfl | rfl | rfl | rfl <;> rcases ce_mem h' with k | k | k | k | k | k <;> (simp only [Prod.mk.injEq] at k; omega)
theorem ce_nodup (a b : Nat) : (ceE b a).Nodup := by
  simp only [ceE, List.nodup_cons, List.mem_cons, List.not_mem_nil, Prod.mk.injEq, or_false, not_false_eq_true, List.nodup_nil, and_true]
  omega
def rowE (b n : Nat) : List E2 := (List.range n).flatMap fun a => ceE b (a + 1)
def miE (R : Rt) (n : Nat) : List E2 := (List.range n).flatMap fun b => rowE (b + 1) (R.m - 2)
theorem row_mem {b n : Nat} {e : E2} : e ∈ rowE b n ↔ ∃ a, a < n ∧ e ∈ ceE b (a + 1) := by
  simp only [rowE, List.mem_flatMap, List.mem_range]
theorem mi_mem {R : Rt} {n : Nat} {e : E2} : e ∈ miE R n ↔ ∃ b, b < n ∧ ∃ a, a < R.m - 2 ∧ e ∈ ceE (b + 1) (a + 1) := by
  simp only [miE, List.mem_flatMap, List.mem_range, row_mem]
theorem row_nodup (b n : Nat) : (rowE b n).Nodup := by
  induction n with
  | zero => exact List.nodup_nil
  | succ n ih =>
    rw [rowE, List.range_succ, List.flatMap_append]
    rw [List.nodup_append]
    refine ⟨ih, by simpa using ce_nodup (n + 1) b, fun x hx y hy e => ?_⟩
    subst e
    obtain ⟨a, ha, h⟩ := row_mem.1 hx
    have h' : x ∈ ceE b (n + 1) := by simpa using hy
    have := ce_inj h h'
    omega
theorem mi_nodup (R : Rt) (n : Nat) : (miE R n).Nodup := by
  induction n with
  | zero => exact List.nodup_nil
  | succ n ih =>
    rw [miE, List.range_succ, List.flatMap_append]
    rw [List.nodup_append]
    refine ⟨ih, by simpa using row_nodup (n + 1) (R.m - 2), fun x hx y hy e => ?_⟩
    subst e
    obtain ⟨b, hb, a, ha, h⟩ := mi_mem.1 hx
    have h' : x ∈ rowE (n + 1) (R.m - 2) := by simpa using hy
    obtain ⟨a', ha', h'⟩ := row_mem.1 h'
    have := ce_inj h h'
    omega
/-- All directed edges, triangle after triangle, when there is an inside. -/
def allE (R : Rt) : List E2 := miE R (R.m - 2) ++ (List.range 4).flatMap fun k => stE R k (R.r k + (R.m - 2)) 0 1
theorem all_mem {R : Rt} {e : E2} : e ∈ allE R ↔ e ∈ miE R (R.m - 2) ∨ ∃ k, k < 4 ∧ e ∈ stE R k (R.r k + (R.m - 2)) 0 1 := by
  simp only [allE, List.mem_append, List.mem_flatMap, List.mem_range]
theorem mi_in {R : Rt} {e : E2} (h : e ∈ miE R (R.m - 2)) : e.1.1 = 3 ∧ e.2.1 = 3 := by
  obtain ⟨b, hb, a, ha, h⟩ := mi_mem.1 h
  rcases ce_mem h with rfl | rfl | rfl | rfl | rfl | rfl <;> exact ⟨rfl, rfl⟩
theorem mi_B {R : Rt} {k t : Nat} (hk : k < 4) (ht : 1 ≤ t ∧ t + 1 < R.m) : eB R k t ∉ miE R (R.m - 2) := fun h => by
  obtain ⟨b, hb, a, ha, h⟩ := mi_mem.1 h
  rcases besS_cases R.m hk t with ⟨q, x⟩ | ⟨q, x⟩ | ⟨q, x⟩ | ⟨q, x⟩ <;> rcases besS_cases R.m hk (t + 1) with ⟨q', y⟩ | ⟨q', y⟩ | ⟨q', y⟩ | ⟨q', y⟩ <;> first | (exfalso; omega) | skip
  all_goals (rcases ce_mem h with e | e | e | e | e | e <;> (rw [eB, x, y] at e; simp only [Prod.mk.injEq] at e; omega))
/-- .. but turned back it is there. -/
theorem B_mi {R : Rt} {k t : Nat} (hk : k < 4) (ht : 1 ≤ t ∧ t + 1 < R.m) : (eB R k t).swap ∈ miE R (R.m - 2) := by
  rw [mi_mem]
  have hh : (eB R k t).swap = (besS R.m k t, besS R.m k (t + 1)) := rfl
  rw [hh]
  match k, hk with
  | 0, _ =>
    refine ⟨0, by omega, t - 1, by omega, ?_⟩
    rw [show besS R.m 0 t = (3, t, 1) from rfl, show besS R.m 0 (t + 1) = (3, t + 1, 1) from rfl, show t - 1 + 1 = t by omega]
    simp [ceE]
  | 1, _ =>
    refine ⟨t - 1, by omega, R.m - 3, by omega, ?_⟩
    rw [show besS R.m 1 t = (3, R.m - 1, t) from rfl, show besS R.m 1 (t + 1) = (3, R.m - 1, t + 1) from rfl, show R.m - 1 = R.m - 3 + 1 + 1 by omega, show t - 1 + 1 = t by omega]
    simp [ceE]
  | 2, _ =>
    refine ⟨R.m - 3, by omega, R.m - (t + 1) - 1, by omega, ?_⟩
    rw [show besS R.m 2 t = (3, R.m - t, R.m - 1) from rfl, show besS R.m 2 (t + 1) = (3, R.m - (t + 1), R.m - 1) from rfl, show R.m - t = R.m - (t + 1) - 1 + 1 + 1 by omega, show R.m - 1 = R.m - 3 + 1 + 1 by omega]
    rw [show R.m - (t + 1) = R.m - (t + 1) - 1 + 1 by omega]
    simp [ceE]
  | 3, _ =>
    refine ⟨R.m - (t + 1) - 1, by omega, 0, by omega, ?_⟩
    rw [show besS R.m 3 t = (3, 1, R.m - t) from rfl, show besS R.m 3 (t + 1) = (3, 1, R.m - (t + 1)) from rfl, show R.m - t = R.m - (t + 1) - 1 + 1 + 1 by omega]
    rw [show R.m - (t + 1) = R.m - (t + 1) - 1 + 1 by omega]
    simp [ceE]
theorem all_nodup {R : Rt} (hR : R.ok) (hm : 2 ≤ R.m) : (allE R).Nodup := by
  have hS : ∀ k, k < 4 → ∀ e ∈ stE R k (R.r k + (R.m - 2)) 0 1, inSt R k 0 1 e := fun k hk => st_mem _ 0 1 (by omega) (by omega) (by omega) (by omega)
  have hN : ∀ n, n ≤ 4 → ((List.range n).flatMap fun k => stE R k (R.r k + (R.m - 2)) 0 1).Nodup := by
    intro n
    induction n with
    | zero => intro _; exact List.nodup_nil
    | succ n ih =>
      intro hn
      rw [List.range_succ, List.flatMap_append, List.nodup_append]
      refine ⟨ih (by omega), by simpa using st_nodup hR (k := n) (by omega) _ 0 1 (by omega) (by omega) (by omega) (by omega), fun x hx y hy e => ?_⟩
      subst e
      simp only [List.mem_flatMap, List.mem_range, List.range_one, List.mem_singleton, List.flatMap_cons, List.flatMap_nil, List.append_nil] at hx hy
      obtain ⟨k, hk, h⟩ := hx
      exact st_apart hR (by omega) (by omega) (by omega : k ≠ n) (hS k (by omega) _ h) (hS n (by omega) _ hy)
  rw [allE, List.nodup_append]
  refine ⟨mi_nodup R _, hN 4 (by omega), fun x hx y hy e => ?_⟩
  subst e
  simp only [List.mem_flatMap, List.mem_range] at hy
  obtain ⟨k, hk, h⟩ := hy
  obtain ⟨m1, m2⟩ := mi_in hx
  rcases hS k hk x h with ⟨i, a, b, rfl⟩ | ⟨t, a, b, rfl⟩ | ⟨i, t, a, b, c, d, g, rfl⟩ | ⟨i, t, a, b, c, d, g, rfl⟩
  · exact ouS_k _ _ _ m1
  · exact mi_B hk ⟨a, b⟩ hx
  · exact ouS_k _ _ _ m2
  · exact ouS_k _ _ _ m1
def isA (R : Rt) (e : E2) : Prop := ∃ k i, k < 4 ∧ i < R.r k ∧ e = eA R k i
theorem not_A {R : Rt} {e : E2} (h : e.1.1 = 3 ∨ e.2.1 = 3) : ¬ isA R e := fun ⟨k, i, hk, hi, e'⟩ => by
  subst e'
  rcases h with h | h
  · exact ouS_k _ _ _ h
  · exact ouS_k _ _ _ h
theorem st_zero (R : Rt) (hm : 2 ≤ R.m) (k : Nat) : R.r k + (R.m - 2) = (R.r k - 0) + (R.m - 1 - 1) := by omega
/-- A side's part is not gone along the other way. -/
theorem A_once {R : Rt} (hR : R.ok) (hm : 2 ≤ R.m) {e : E2} (h : isA R e) : e.swap ∉ allE R := fun hM => by
  obtain ⟨k, i, hk, hi, rfl⟩ := h
  rcases all_mem.1 hM with h | ⟨k', hk', h⟩
  · exact ouS_k _ _ _ (mi_in h).1
  · rcases st_mem _ 0 1 (by omega) (by omega) (by omega) (st_zero R hm k') _ h with ⟨i', a, b, e'⟩ | ⟨t, a, b, e'⟩ | ⟨i', t, a, b, c, d, g, e'⟩ | ⟨i', t, a, b, c, d, g, e'⟩
    · have e1 : ouS R k (i + 1) = ouS R k' i' := congrArg Prod.fst e'
      have e2 : ouS R k i = ouS R k' (i' + 1) := congrArg Prod.snd e'
      have x1 := ouS_inj hk hk' (by omega) (by omega) (Rt.ok_r hR k).1 (Rt.ok_r hR k').1 e1
      have x2 := ouS_inj hk hk' (by omega) (by omega) (Rt.ok_r hR k).1 (Rt.ok_r hR k').1 e2
      omega
    · exact ouS_k R k (i + 1) (by have := congrArg (fun e : E2 => e.1.1) e'; exact this.trans (besS_k ..))
    · exact ouS_k R k (i + 1) (by have := congrArg (fun e : E2 => e.1.1) e'; exact this.trans (besS_k ..))
    · exact ouS_k R k i (by have := congrArg (fun e : E2 => e.2.1) e'; exact this.trans (besS_k ..))
def ed3 (t : T3) : List (Nat × Nat) := [(t.1, t.2.1), (t.2.1, t.2.2), (t.2.2, t.1)]
def nm2 (R : Rt) (e : E2) : Nat × Nat := (nm R e.1, nm R e.2)
theorem st_nm (R : Rt) (k : Nat) : ∀ f i t, (stripF R k f i t).flatMap ed3 = (stE R k f i t).map (nm2 R) := by
  intro f
  induction f with
  | zero => intro i t; rfl
  | succ f ih =>
    intro i t
    rw [stripF, stE]
    split
    · rw [List.flatMap_cons, ih]; simp [ed3, nm2, eA, eO, eI, ouS_nm, bes]
    · rw [List.flatMap_cons, ih]; simp [ed3, nm2, eB, eO, eI, ouS_nm, bes]
theorem row_nm (R : Rt) (b n : Nat) : (midR R b n).flatMap ed3 = (rowE b n).map (nm2 R) := by
  induction n with
  | zero => rfl
  | succ n ih =>
    rw [midR, List.range_succ, List.flatMap_append, List.flatMap_append, rowE, List.range_succ, List.flatMap_append, List.map_append]
    rw [midR, rowE] at ih
    rw [ih]; simp [ed3, nm2, ceE, inn]
theorem mi_nm (R : Rt) (n : Nat) : (midN R n).flatMap ed3 = (miE R n).map (nm2 R) := by
  induction n with
  | zero => rfl
  | succ n ih =>
    rw [midN, List.range_succ, List.flatMap_append, List.flatMap_append, miE, List.range_succ, List.flatMap_append, List.map_append]
    rw [midN, miE] at ih
    rw [ih]; simp [row_nm]
theorem all_nm (R : Rt) (hm : R.m ≠ 1) : (trisN R).flatMap ed3 = (allE R).map (nm2 R) := by
  rw [trisN, if_neg hm, allE, List.flatMap_append, List.map_append, mi_nm]
  congr 1
  rw [show List.range 4 = [0, 1, 2, 3] from rfl]
  simp [stripN, st_nm]
theorem mi_vs {R : Rt} {e : E2} (h : e ∈ miE R (R.m - 2)) : vs R e.1 ∧ vs R e.2 ∧ e.1 ≠ e.2 := by
  obtain ⟨b, hb, a, ha, h⟩ := mi_mem.1 h
  rcases ce_mem h with rfl | rfl | rfl | rfl | rfl | rfl <;> (refine ⟨vs_inner (by omega) (by omega), vs_inner (by omega) (by omega), fun h => ?_⟩; simp only [Prod.mk.injEq] at h; omega)
theorem ab_ne {s t : T3} (h : s.1 ≠ 3) (k : t.1 = 3) : s ≠ t := fun e => h (by rw [e]; exact k)
theorem st_vs {R : Rt} (hR : R.ok) {k : Nat} (hk : k < 4) {e : E2} (h : inSt R k 0 1 e) : vs R e.1 ∧ vs R e.2 ∧ e.1 ≠ e.2 := by
  have hr := Rt.ok_r hR k
  rcases h with ⟨i, a, b, rfl⟩ | ⟨t, a, b, rfl⟩ | ⟨i, t, a, b, c, d, g, rfl⟩ | ⟨i, t, a, b, c, d, g, rfl⟩
  · refine ⟨ouS_vs hk (by omega), ouS_vs hk (by omega), fun h => ?_⟩
    have := ouS_inj hk hk (by omega) (by omega) hr.1 hr.1 (show ouS R k i = ouS R k (i + 1) from h)
    omega
  · refine ⟨vs_bes (by omega), vs_bes (by omega), fun h => ?_⟩
    have := besS_inj hk (by omega) (by omega) (show besS R.m k (t + 1) = besS R.m k t from h)
    omega
  · exact ⟨vs_bes (by omega), ouS_vs hk (by omega), (ab_ne (ouS_k _ _ _) (besS_k _ _ _)).symm⟩
  · exact ⟨ouS_vs hk (by omega), vs_bes (by omega), ab_ne (ouS_k _ _ _) (besS_k _ _ _)⟩
theorem all_vs {R : Rt} (hR : R.ok) (hm : 2 ≤ R.m) {e : E2} (h : e ∈ allE R) : vs R e.1 ∧ vs R e.2 ∧ e.1 ≠ e.2 := by
  rcases all_mem.1 h with h | ⟨k, hk, h⟩
  · exact mi_vs h
  · exact st_vs hR hk (st_mem _ 0 1 (by omega) (by omega) (by omega) (st_zero R hm k) _ h)
theorem B_all {R : Rt} (hm : 2 ≤ R.m) {k t : Nat} (hk : k < 4) (ht : 1 ≤ t ∧ t + 1 < R.m) : eB R k t ∈ allE R :=
  all_mem.2 (.inr ⟨k, hk, st_B _ 0 1 (by omega) (by omega) (by omega) (st_zero R hm k) t ht.1 ht.2⟩)
theorem ce_all {R : Rt} {a b : Nat} {e : E2} (ha : 1 ≤ a ∧ a + 1 < R.m) (hb : 1 ≤ b ∧ b + 1 < R.m) (h : e ∈ ceE b a) : e ∈ allE R :=
  all_mem.2 (.inl (mi_mem.2 ⟨b - 1, by omega, a - 1, by omega, by rw [show b - 1 + 1 = b by omega, show a - 1 + 1 = a by omega]; exact h⟩))
theorem mi_back {R : Rt} (hm : 2 ≤ R.m) {e : E2} (h : e ∈ miE R (R.m - 2)) : e.swap ∈ allE R := by
  obtain ⟨b, hb, a, ha, h⟩ := mi_mem.1 h
  have hA : 1 ≤ a + 1 ∧ a + 1 + 1 < R.m := by omega
  have hB : 1 ≤ b + 1 ∧ b + 1 + 1 < R.m := by omega
  generalize a + 1 = a at *
  generalize b + 1 = b at *
  rcases ce_mem h with rfl | rfl | rfl | rfl | rfl | rfl
  · show ((3, a + 1, b), (3, a, b)) ∈ allE R
    by_cases z : b = 1
    · subst z
      exact B_all hm (k := 0) (t := a) (by omega) hA
    · obtain ⟨c, rfl⟩ : ∃ c, b = c + 1 := ⟨b - 1, by omega⟩
      exact ce_all (a := a) (b := c) hA (by omega) (by simp [ceE])
  · show ((3, a + 1, b + 1), (3, a + 1, b)) ∈ allE R
    by_cases z : a + 2 = R.m
    · have := B_all hm (k := 1) (t := b) (by omega) hB
      rw [eB, show besS R.m 1 (b + 1) = (3, R.m - 1, b + 1) from rfl, show besS R.m 1 b = (3, R.m - 1, b) from rfl, show R.m - 1 = a + 1 by omega] at this
      exact this
    · exact ce_all (a := a + 1) (b := b) (by omega) hB (by simp [ceE])
  · exact ce_all (a := a) (b := b) hA hB (by simp [ceE])
  · exact ce_all (a := a) (b := b) hA hB (by simp [ceE])
  · show ((3, a, b + 1), (3, a + 1, b + 1)) ∈ allE R
    by_cases z : b + 2 = R.m
    · have := B_all hm (k := 2) (t := R.m - (a + 1)) (by omega) (by omega)
      rw [eB, show besS R.m 2 (R.m - (a + 1) + 1) = (3, R.m - (R.m - (a + 1) + 1), R.m - 1) from rfl, show besS R.m 2 (R.m - (a + 1)) = (3, R.m - (R.m - (a + 1)), R.m - 1) from rfl, show R.m - 1 = b + 1 by omega, show R.m - (R.m - (a + 1) + 1) = a by omega, show R.m - (R.m - (a + 1)) = a + 1 by omega] at this
      exact this
    · exact ce_all (a := a) (b := b + 1) hA (by omega) (by simp [ceE])
  · show ((3, a, b), (3, a, b + 1)) ∈ allE R
    by_cases z : a = 1
    · subst z
      have := B_all hm (k := 3) (t := R.m - (b + 1)) (by omega) (by omega)
      rw [eB, show besS R.m 3 (R.m - (b + 1) + 1) = (3, 1, R.m - (R.m - (b + 1) + 1)) from rfl, show besS R.m 3 (R.m - (b + 1)) = (3, 1, R.m - (R.m - (b + 1))) from rfl, show R.m - (R.m - (b + 1) + 1) = b by omega, show R.m - (R.m - (b + 1)) = b + 1 by omega] at this
      exact this
    · obtain ⟨c, rfl⟩ : ∃ c, a = c + 1 := ⟨a - 1, by omega⟩
      exact ce_all (a := c) (b := b) (by omega) hB (by simp [ceE])
theorem ouS_0 (R : Rt) (k : Nat) : ouS R k 0 = (1, k, 0) := by rw [ouS, if_pos rfl]
theorem ouS_r {R : Rt} (hR : R.ok) (k : Nat) : ouS R k (R.r k) = (1, (k + 1) % 4, 0) := by
  have := (Rt.ok_r hR k).1
  rw [ouS, if_neg (by omega), if_pos rfl]
theorem all_back {R : Rt} (hR : R.ok) (hm : 2 ≤ R.m) {e : E2} (h : e ∈ allE R) (hn : ¬ isA R e) : e.swap ∈ allE R := by
  rcases all_mem.1 h with h | ⟨k, hk, h⟩
  · exact mi_back hm h
  · have hr := Rt.ok_r hR k
    rcases st_back _ 0 1 (by omega) (by omega) (by omega) (st_zero R hm k) e h with ⟨i, hi, he⟩ | ⟨t, h1, h2, rfl⟩ | rfl | rfl | h
    · exact absurd ⟨k, i, hk, hi, he⟩ hn
    · exact all_mem.2 (.inl (B_mi hk ⟨h1, h2⟩))
    · have h4 : (k + 3) % 4 < 4 := Nat.mod_lt _ (by omega)
      have hk' : ((k + 3) % 4 + 1) % 4 = k := by omega
      have hr' := Rt.ok_r hR ((k + 3) % 4)
      have e1 : (eI R k 0 1).swap = eO R ((k + 3) % 4) (R.r ((k + 3) % 4)) (R.m - 1) := by
        show (ouS R k 0, besS R.m k 1) = (ouS R ((k + 3) % 4) (R.r ((k + 3) % 4)), besS R.m ((k + 3) % 4) (R.m - 1))
        rw [ouS_0, ouS_r hR, besS_meet h4 hm, hk']
      rw [e1]
      exact all_mem.2 (.inr ⟨(k + 3) % 4, h4, st_O _ 0 1 (by omega) (by omega) (by omega) (st_zero R hm _) (by omega)⟩)
    · have h4 : (k + 1) % 4 < 4 := Nat.mod_lt _ (by omega)
      have hr' := Rt.ok_r hR ((k + 1) % 4)
      have e1 : (eO R k (R.r k) (R.m - 1)).swap = eI R ((k + 1) % 4) 0 1 := by
        show (besS R.m k (R.m - 1), ouS R k (R.r k)) = (besS R.m ((k + 1) % 4) 1, ouS R ((k + 1) % 4) 0)
        rw [ouS_0, ouS_r hR, besS_meet hk hm]
      rw [e1]
      exact all_mem.2 (.inr ⟨(k + 1) % 4, h4, st_I (by omega) (by omega) (st_zero R hm _) (by omega)⟩)
    · exact all_mem.2 (.inr ⟨k, hk, h⟩)
open Classical in
theorem st_count {R : Rt} {k : Nat} (hk : k < 4) : ∀ f i t, i ≤ R.r k → 1 ≤ t → t < R.m → f = (R.r k - i) + (R.m - 1 - t) → (stE R k f i t).countP (fun e => decide (isA R e)) = R.r k - i := by
  intro f
  have hO : ∀ i t, ¬ isA R (eO R k i t) := fun i t => not_A (.inr (besS_k _ _ _))
  have hI : ∀ i t, ¬ isA R (eI R k i t) := fun i t => not_A (.inl (besS_k _ _ _))
  have hB : ∀ t, ¬ isA R (eB R k t) := fun t => not_A (.inl (besS_k _ _ _))
  induction f with
  | zero => intro i t _ _ _ hf; rw [stE]; simp; omega
  | succ f ih =>
    intro i t hi ht1 ht2 hf
    rw [stE]
    split
    · rename_i hT
      have hl := take_lt hT
      have hA : isA R (eA R k i) := ⟨k, i, hk, hl, rfl⟩
      rw [List.countP_cons_of_pos (by simpa using hA), List.countP_cons_of_neg (by simpa using hO _ _), List.countP_cons_of_neg (by simpa using hI _ _), ih (i + 1) t hl ht1 ht2 (by omega)]
      omega
    · rename_i hT
      have hl := take_not hT hi ht2 (by omega)
      rw [List.countP_cons_of_neg (by simpa using hO _ _), List.countP_cons_of_neg (by simpa using hB _), List.countP_cons_of_neg (by simpa using hI _ _), ih i (t + 1) hi (by omega) hl (by omega)]
open Classical in
theorem all_count {R : Rt} (hm : 2 ≤ R.m) : (allE R).countP (fun e => decide (isA R e)) = sumR R := by
  have h0 : (miE R (R.m - 2)).countP (fun e => decide (isA R e)) = 0 := List.countP_eq_zero.2 fun e he => by simpa using not_A (.inl (mi_in he).1)
  have hs : ∀ k, k < 4 → (stE R k (R.r k + (R.m - 2)) 0 1).countP (fun e => decide (isA R e)) = R.r k := fun k hk => by
    rw [st_count hk _ 0 1 (by omega) (by omega) (by omega) (st_zero R hm k)]; omega
  rw [allE, List.countP_append, h0, show List.range 4 = [0, 1, 2, 3] from rfl]
  simp only [List.flatMap_cons, List.flatMap_nil, List.append_nil, List.countP_append]
  rw [hs 0 (by omega), hs 1 (by omega), hs 2 (by omega), hs 3 (by omega)]
  simp only [sumR, Rt.r]
  omega
theorem all_from {R : Rt} (hR : R.ok) (hm : 2 ≤ R.m) {s : T3} (h : vs R s) : ∃ y, (s, y) ∈ allE R := by
  have hA : ∀ k i, k < 4 → i < R.r k → ∃ y, (ouS R k i, y) ∈ allE R := fun k i hk hi => ⟨_, all_mem.2 (.inr ⟨k, hk, st_A _ 0 1 (by omega) (by omega) (by omega) (st_zero R hm k) i (by omega) hi⟩)⟩
  obtain ⟨x, a, b⟩ := s
  rcases h with ⟨h1, h2, h3⟩ | ⟨h1, h2, h3, h4⟩ | ⟨h1, h2, h3⟩
  · simp only at h1 h2 h3
    subst h1 h3
    have := hA a 0 h2 (Rt.ok_r hR a).1
    rw [ouS_0] at this
    exact this
  · simp only at h1 h2 h3 h4
    subst h1
    have := hA a b h2 h4
    rw [ouS, if_neg (by omega), if_neg (by omega)] at this
    exact this
  · simp only at h1 h2 h3
    subst h1
    by_cases z : R.m = 2
    · obtain rfl : a = 1 := by omega
      obtain rfl : b = 1 := by omega
      exact ⟨_, all_mem.2 (.inr ⟨0, by omega, st_I (by omega) (by omega) (st_zero R hm 0) (by have := (Rt.ok_r hR 0).1; omega)⟩)⟩
    · by_cases z1 : a + 1 < R.m
      · by_cases z2 : b + 1 < R.m
        · exact ⟨(3, a + 1, b), ce_all (a := a) (b := b) (by omega) (by omega) (by simp [ceE])⟩
        · obtain ⟨c, rfl⟩ : ∃ c, b = c + 1 := ⟨b - 1, by omega⟩
          exact ⟨(3, a, c), ce_all (a := a) (b := c) (by omega) (by omega) (by simp [ceE])⟩
      · obtain ⟨d, rfl⟩ : ∃ d, a = d + 1 := ⟨a - 1, by omega⟩
        by_cases z2 : b + 1 < R.m
        · exact ⟨(3, d + 1, b + 1), ce_all (a := d) (b := b) (by omega) (by omega) (by simp [ceE])⟩
        · obtain ⟨c, rfl⟩ : ∃ c, b = c + 1 := ⟨b - 1, by omega⟩
          exact ⟨(3, d, c), ce_all (a := d) (b := c) (by omega) (by omega) (by simp [ceE])⟩
/-- The two triangles of a patch with no inside. -/
def oneE : List E2 := [((1, 0, 0), (1, 1, 0)), ((1, 1, 0), (1, 2, 0)), ((1, 2, 0), (1, 0, 0)), ((1, 0, 0), (1, 2, 0)), ((1, 2, 0), (1, 3, 0)), ((1, 3, 0), (1, 0, 0))]
theorem one_A {R : Rt} (hR : R.ok) (h1 : R.m = 1) (e : E2) : isA R e ↔ ∃ k, k < 4 ∧ e = ((1, k, 0), (1, (k + 1) % 4, 0)) := by
  have hr : ∀ k, R.r k = 1 := fun k => by have := Rt.ok_r hR k; omega
  constructor
  · rintro ⟨k, i, hk, hi, rfl⟩
    obtain rfl : i = 0 := by have := hr k; omega
    refine ⟨k, hk, ?_⟩
    have := ouS_r hR k
    rw [hr k] at this
    rw [eA, ouS_0, Nat.zero_add, this]
  · rintro ⟨k, hk, rfl⟩
    refine ⟨k, 0, hk, by have := hr k; omega, ?_⟩
    have := ouS_r hR k
    rw [hr k] at this
    rw [eA, ouS_0, Nat.zero_add, this]
theorem one_A2 {R : Rt} (hR : R.ok) (h1 : R.m = 1) (e : E2) : isA R e ↔ e = ((1, 0, 0), (1, 1, 0)) ∨ e = ((1, 1, 0), (1, 2, 0)) ∨ e = ((1, 2, 0), (1, 3, 0)) ∨ e = ((1, 3, 0), (1, 0, 0)) := by
  rw [one_A hR h1]
  constructor
  · rintro ⟨k, hk, rfl⟩
    match k, hk with
    | 0, _ => exact .inl rfl
    | 1, _ => exact .inr (.inl rfl)
    | 2, _ => exact .inr (.inr (.inl rfl))
    | 3, _ => exact .inr (.inr (.inr rfl))
  · rintro (rfl | rfl | rfl | rfl)
    · exact ⟨0, by omega, rfl⟩
    · exact ⟨1, by omega, rfl⟩
    · exact ⟨2, by omega, rfl⟩
    · exact ⟨3, by omega, rfl⟩
open Classical in
theorem tight_good (R : Rt) (hR : R.ok) : ∃ E : List E2, (trisN R).flatMap ed3 = E.map (nm2 R) ∧ (∀ e ∈ E, vs R e.1 ∧ vs R e.2 ∧ e.1 ≠ e.2) ∧ E.Nodup ∧ (∀ e ∈ E, isA R e → e.swap ∉ E) ∧ (∀ e ∈ E, ¬ isA R e → e.swap ∈ E) ∧ E.countP (fun e => decide (isA R e)) = sumR R ∧ (∀ s, vs R s → ∃ y, (s, y) ∈ E) := by
  have hmm := Rt.ok_m hR
  by_cases h1 : R.m = 1
  · have hr : ∀ k, R.r k = 1 := fun k => by have := Rt.ok_r hR k; omega
    have hA := one_A2 hR h1
    refine ⟨oneE, ?_, ?_, by decide, ?_, ?_, ?_, ?_⟩
    · rw [trisN, if_pos h1]; rfl
    · intro e he
      have hc : ∀ k, k < 4 → vs R (1, k, 0) := fun k hk => vs_corn hk
      simp only [oneE, List.mem_cons, List.not_mem_nil, or_false] at he
      rcases he with rfl | rfl | rfl | rfl | rfl | rfl <;> exact ⟨hc _ (by simp), hc _ (by simp), by decide⟩
    · intro e _ h
      rcases (hA e).1 h with rfl | rfl | rfl | rfl <;> decide
    · intro e he hn
      rw [hA] at hn
      simp only [oneE, List.mem_cons, List.not_mem_nil, or_false] at he
      rcases he with rfl | rfl | rfl | rfl | rfl | rfl <;> first | decide | exact absurd (by simp) hn
    · have e : ∀ e, decide (isA R e) = decide (e = ((1, 0, 0), (1, 1, 0)) ∨ e = ((1, 1, 0), (1, 2, 0)) ∨ e = ((1, 2, 0), (1, 3, 0)) ∨ e = ((1, 3, 0), (1, 0, 0))) := fun e => by simp only [hA e]
      simp only [e]
      have hs : sumR R = 4 := by have h0 := hr 0; have h1 := hr 1; have h2 := hr 2; have h3 := hr 3; simp only [Rt.r] at h0 h1 h2 h3; simp only [sumR]; omega
      rw [hs]
      simp [oneE]
    · intro s h
      obtain ⟨x, a, b⟩ := s
      rcases h with ⟨h1', h2, h3⟩ | ⟨h1', h2, h3, h4⟩ | ⟨h1', h2, h3⟩
      · simp only at h1' h2 h3
        subst h1' h3
        match a, h2 with
        | 0, _ => exact ⟨(1, 1, 0), by decide⟩
        | 1, _ => exact ⟨(1, 2, 0), by decide⟩
        | 2, _ => exact ⟨(1, 0, 0), by decide⟩
        | 3, _ => exact ⟨(1, 0, 0), by decide⟩
      · simp only at h3 h4; have := hr a; omega
      · simp only at h2; omega
  · have hm : 2 ≤ R.m := by omega
    exact ⟨allE R, all_nm R h1, fun e he => all_vs hR hm he, all_nodup hR hm, fun e _ h => A_once hR hm h, fun e he hn => all_back hR hm he hn, all_count hm, fun s h => all_from hR hm h⟩
def tq (t : T3) (q : Nat) : Nat := if q = 0 then t.1 else if q = 1 then t.2.1 else t.2.2
theorem ed_len (l : List T3) : (l.flatMap ed3).length = 3 * l.length := by
  induction l with
  | nil => rfl
  | cons t l ih => rw [List.flatMap_cons, List.length_append, ih]; simp [ed3]; omega
theorem ed_at (l : List T3) : ∀ j (hj : j < l.length) q, q < 3 → (l.flatMap ed3)[3 * j + q]? = some (tq l[j] q, tq l[j] ((q + 1) % 3)) := by
  induction l with
  | nil => intro j hj; simp at hj
  | cons t l ih =>
    intro j hj q hq
    rw [List.flatMap_cons]
    have h3 : (ed3 t).length = 3 := rfl
    match j, hj with
    | 0, _ =>
      rw [List.getElem?_append_left (by omega)]
      match q, hq with
      | 0, _ => rfl
      | 1, _ => rfl
      | 2, _ => rfl
    | j + 1, hj =>
      rw [List.getElem?_append_right (by omega), h3, show 3 * (j + 1) + q - 3 = 3 * j + q by omega]
      exact ih j (by simpa using hj) q hq
theorem take_one {α : Type} {l : List α} {n : Nat} {x : α} (h : l[n]? = some x) : l.take (n + 1) = l.take n ++ [x] := by
  obtain ⟨hn, e⟩ := List.getElem?_eq_some_iff.1 h
  rw [List.take_succ_eq_append_getElem hn, e]
theorem tq_lt (t : T3) (P : Nat → Prop) (h1 : P t.1) (h2 : P t.2.1) (h3 : P t.2.2) (q : Nat) : P (tq t q) := by
  unfold tq; split
  · exact h1
  · split
    · exact h2
    · exact h3
def edL (R : Rt) (E : List E2) (n : Nat) : List (Nat × Nat) := (E.take n).map (nm2 R)
open Classical in
noncomputable def cntA (R : Rt) (E : List E2) (n : Nat) : Nat := (E.take n).countP (fun e => decide (isA R e))
theorem edL_next {R : Rt} {E : List E2} {n : Nat} {e : E2} (h : E[n]? = some e) : edL R E (n + 1) = edL R E n ++ [nm2 R e] := by rw [edL, take_one h, List.map_append]; rfl
theorem edL_le (R : Rt) (E : List E2) (n : Nat) : (edL R E n).length ≤ n := by rw [edL, List.length_map, List.length_take]; omega
theorem cntA_yes {R : Rt} {E : List E2} {n : Nat} {e : E2} (h : E[n]? = some e) (hA : isA R e) : cntA R E (n + 1) = cntA R E n + 1 := by
  rw [cntA, take_one h, List.countP_append, List.countP_cons_of_pos (by simpa using hA)]; rfl
theorem cntA_no {R : Rt} {E : List E2} {n : Nat} {e : E2} (h : E[n]? = some e) (hA : ¬ isA R e) : cntA R E (n + 1) = cntA R E n := by
  rw [cntA, take_one h, List.countP_append, List.countP_cons_of_neg (by simpa using hA)]; rfl
theorem cntA_le (R : Rt) (E : List E2) (n : Nat) : cntA R E n ≤ n := by
  have := List.countP_le_length (p := fun e => @decide (isA R e) (Classical.propDecidable _)) (l := E.take n)
  rw [List.length_take] at this
  rw [cntA]; omega
structure Tight (R : Rt) (E : List E2) : Prop where
  len : E.length = 3 * (trisN R).length
  at_ : ∀ j (hj : j < (trisN R).length) q, q < 3 → ∃ x y, E[3 * j + q]? = some (x, y) ∧ nm R x = tq (trisN R)[j] q ∧ nm R y = tq (trisN R)[j] ((q + 1) % 3) ∧ vs R x ∧ vs R y ∧ nm R x ≠ nm R y
  new : ∀ n e, E[n]? = some e → nm2 R e ∉ edL R E n
  back : ∀ x y, (x, y) ∈ E → ((nm R y, nm R x) ∈ edL R E E.length ↔ ¬ isA R (x, y))
  sum : cntA R E E.length = sumR R
  all : ∀ o, o < (spotsN R).length → ((edL R E E.length).any fun e => e.1 == o) = true
theorem tight_num (R : Rt) (hR : R.ok) : ∃ E, Tight R E := by
  obtain ⟨E, h1, h2, h3, h4, h5, h6, h7⟩ := tight_good R hR
  have hl : E.length = 3 * (trisN R).length := by rw [← ed_len, h1, List.length_map]
  have hall : edL R E E.length = E.map (nm2 R) := by rw [edL, List.take_length]
  have inj : ∀ e ∈ E, ∀ e' ∈ E, nm2 R e = nm2 R e' → e = e' := by
    intro e he e' he' h
    simp only [nm2, Prod.mk.injEq] at h
    have a := h2 e he
    have b := h2 e' he'
    exact Prod.ext (nm_inj R hR a.1 b.1 h.1) (nm_inj R hR a.2.1 b.2.1 h.2)
  refine ⟨E, hl, ?_, ?_, ?_, ?_, ?_⟩
  · intro j hj q hq
    have h := ed_at (trisN R) j hj q hq
    rw [h1, List.getElem?_map] at h
    cases he : E[3 * j + q]? with
    | none => rw [he] at h; cases h
    | some e =>
      rw [he] at h
      obtain ⟨x, y⟩ := e
      simp only [Option.map_some, Option.some.injEq, nm2, Prod.mk.injEq] at h
      obtain ⟨a, b, c⟩ := h2 (x, y) (List.mem_of_getElem? he)
      exact ⟨x, y, rfl, h.1, h.2, a, b, fun k => c (nm_inj R hR a b k)⟩
  · intro n e he hm
    rw [edL] at hm
    obtain ⟨e', he', hee⟩ := List.mem_map.1 hm
    have heq := inj e' (List.mem_of_mem_take he') e (List.mem_of_getElem? he) hee
    subst heq
    obtain ⟨hn, hne⟩ := List.getElem?_eq_some_iff.1 he
    obtain ⟨i, hi, hie⟩ := List.getElem_of_mem he'
    rw [List.length_take] at hi
    rw [List.getElem_take] at hie
    exact (List.pairwise_iff_getElem.1 h3 i n (by omega) hn (by omega)) (by rw [hie, hne])
  · intro x y hxy
    rw [hall]
    constructor
    · intro hm hA
      obtain ⟨e, he, hee⟩ := List.mem_map.1 hm
      obtain ⟨a, b, _⟩ := h2 _ hxy
      obtain ⟨c, d, _⟩ := h2 _ he
      simp only [nm2, Prod.mk.injEq] at hee
      have e1 := nm_inj R hR c b hee.1
      have e2 := nm_inj R hR d a hee.2
      refine h4 _ hxy hA ?_
      have : e = (y, x) := Prod.ext e1 e2
      rw [← show e = (x, y).swap from this]
      exact he
    · intro hA
      exact List.mem_map.2 ⟨_, h5 _ hxy hA, rfl⟩
  · rw [cntA, List.take_length]; exact h6
  · intro o ho
    have hs := (spots_num R hR).1 o _ (List.getElem?_eq_getElem ho)
    obtain ⟨y, hy⟩ := h7 _ hs.2
    rw [hall, List.any_eq_true]
    refine ⟨_, List.mem_map.2 ⟨_, hy, rfl⟩, ?_⟩
    simp only [nm2, beq_iff_eq]
    rw [hs.1]; omega
end Go.Proofs.Ytoalihdempcbjaa
