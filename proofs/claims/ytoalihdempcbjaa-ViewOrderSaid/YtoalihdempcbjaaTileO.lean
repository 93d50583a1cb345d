/- The tiles of the grid go by rows; a pick brings one of these to the front (plain). -/
import Derived.Test.YtoalihdempcbjaaTileP
namespace Go.Proofs.Ytoalihdempcbjaa
open Go.RowKit
set_option maxRecDepth 100000
set_option linter.unusedSimpArgs false
set_option linter.unusedVariables false
def befT (s t : T4) : Prop := s.2.1 < t.2.1 ∨ (s.2.1 = t.2.1 ∧ s.1 < t.1)
theorem grid_sorted (w h nx j : Nat) : (gridN w h nx j).Pairwise befT := by
  refine List.pairwise_flatMap.2 ⟨fun b _ => ?_, ?_⟩
  · rw [rowN, List.pairwise_map]
    exact List.pairwise_lt_range.imp (fun {a a'} hlt => .inr ⟨rfl, by show 4 * a < 4 * a'; omega⟩)
  · refine List.pairwise_lt_range.imp (fun {b b'} hlt s hs t ht => ?_)
    simp only [rowN, List.mem_map, List.mem_range] at hs ht
    obtain ⟨a, _, rfl⟩ := hs
    obtain ⟨a', _, rfl⟩ := ht
    exact .inl (by show 4 * b < 4 * b'; omega)
theorem grid_lt (w h i j : Nat) (hi : i < j) (hj : j < (gridA w h).length) : befT ((gridA w h)[i]'(Nat.lt_trans hi hj)) (gridA w h)[j] :=
  List.pairwise_iff_getElem.1 (grid_sorted w h ((w + 3) / 4) ((h + 3) / 4)) i j (Nat.lt_trans hi hj) hj hi
theorem grid_len0 (w h : Nat) (hw : 1 ≤ w) (hh : 1 ≤ h) : 0 < (gridA w h).length := by
  refine List.length_pos_of_mem (a := tileN w h 0 0) (mem_grid.2 ⟨0, by omega, 0, by omega, rfl⟩)
def pickL (A : List T4) (k : Nat) (h : k < A.length) : List T4 := A[k] :: A.eraseIdx k
theorem tiles_none (w h : Nat) : tilesL (w : Int) (h : Int) [] = fl (gridA w h) := by
  rw [tilesL, gridF_fl]; rfl
theorem tiles_one (w h : Nat) (hw : 1 ≤ w) (hh : 1 ≤ h) (p : Int) : ∃ (k : Nat) (hk : k < (gridA w h).length), tilesL (w : Int) (h : Int) [p] = fl (pickL (gridA w h) k hk) := by
  have hp := grid_len0 w h hw hh
  have hk := pickK_lt p (gridA w h).length hp
  refine ⟨_, hk, ?_⟩
  have hl : (fl (gridA w h)).length / 4 = (gridA w h).length := by rw [fl_len]; omega
  have e : picked (fl (gridA w h), []) [p] = (fl ((gridA w h).eraseIdx (pickK p (gridA w h).length)), fl [(gridA w h)[pickK p (gridA w h).length]]) := by
    show stepT (fl (gridA w h), []) p = _
    rw [stepT, if_neg (by show ¬ (fl (gridA w h)).length / 4 = 0; omega)]
    show (cutK (fl (gridA w h)) (pickK p ((fl (gridA w h)).length / 4)), [] ++ tl4 (fl (gridA w h)) (pickK p ((fl (gridA w h)).length / 4))) = _
    rw [hl, cutK_fl, tl4_fl _ _ hk, List.nil_append]
  rw [tilesL, gridF_fl, e, ← fl_app]
  rfl
theorem pick_len (A : List T4) (k : Nat) (h : k < A.length) : (pickL A k h).length = A.length := by
  rw [pickL, List.length_cons, List.length_eraseIdx_of_lt h]; omega
theorem pick_0 (A : List T4) (k : Nat) (h : k < A.length) : (pickL A k h)[0]'(by rw [pick_len]; omega) = A[k] := rfl
theorem pick_lo (A : List T4) (k i : Nat) (h : k < A.length) (hi : i < k) : (pickL A k h)[i + 1]'(by rw [pick_len]; omega) = A[i]'(by omega) := by
  have e : (pickL A k h)[i + 1]'(by rw [pick_len]; omega) = (A.eraseIdx k)[i]'(by rw [List.length_eraseIdx_of_lt h]; omega) := rfl
  rw [e, List.getElem_eraseIdx, dif_pos hi]
theorem pick_hi (A : List T4) (k i : Nat) (h : k < A.length) (hi : k < i) (hl : i < A.length) : (pickL A k h)[i]'(by rw [pick_len]; omega) = A[i] := by
  obtain ⟨j, rfl⟩ : ∃ j, i = j + 1 := ⟨i - 1, by omega⟩
  have e : (pickL A k h)[j + 1]'(by rw [pick_len]; omega) = (A.eraseIdx k)[j]'(by rw [List.length_eraseIdx_of_lt h]; omega) := rfl
  rw [e, List.getElem_eraseIdx, dif_neg (by omega)]
/-- What the walk asks of the two lists. -/
theorem order_good (w h : Nat) (hw : 1 ≤ w) (hh : 1 ≤ h) (p : Int) : ∃ (A B : List T4) (k : Nat), tilesL (w : Int) (h : Int) [] = fl A ∧ tilesL (w : Int) (h : Int) [p] = fl B ∧ k < A.length ∧ B.length = A.length ∧
    (∀ j, j < 4 → (fl B).getD j 0 = (fl A).getD (k * 4 + j) 0) ∧
    (∀ i, i < k → ∀ j, j < 4 → (fl B).getD ((i + 1) * 4 + j) 0 = (fl A).getD (i * 4 + j) 0) ∧
    (∀ i, k < i → i < A.length → ∀ j, j < 4 → (fl B).getD (i * 4 + j) 0 = (fl A).getD (i * 4 + j) 0) ∧
    (∀ i j, i < j → j < A.length → (fl A).getD (i * 4 + 1) 0 < (fl A).getD (j * 4 + 1) 0 ∨ ((fl A).getD (i * 4 + 1) 0 = (fl A).getD (j * 4 + 1) 0 ∧ (fl A).getD (i * 4 + 0) 0 < (fl A).getD (j * 4 + 0) 0)) := by
  obtain ⟨k, hk, hB⟩ := tiles_one w h hw hh p
  refine ⟨gridA w h, _, k, tiles_none w h, hB, hk, pick_len _ _ hk, fun j hj => ?_, fun i hi j hj => ?_, fun i hi hl j hj => ?_, fun i j hi hj => ?_⟩
  · have e := fl_at (pickL (gridA w h) k hk) 0 (by rw [pick_len]; omega) j hj
    rw [Nat.zero_mul, Nat.zero_add] at e
    rw [e, fl_at _ k hk j hj]; rfl
  · rw [fl_at (pickL (gridA w h) k hk) (i + 1) (by rw [pick_len]; omega) j hj, fl_at _ i (by omega) j hj, pick_lo _ _ _ hk hi]
  · rw [fl_at (pickL (gridA w h) k hk) i (by rw [pick_len]; omega) j hj, fl_at _ i hl j hj, pick_hi _ _ _ hk hi hl]
  · rw [fl_at _ i (by omega) 1 (by omega), fl_at _ j hj 1 (by omega), fl_at _ i (by omega) 0 (by omega), fl_at _ j hj 0 (by omega)]
    rcases grid_lt w h i j hi hj with h1 | ⟨h1, h2⟩
    · left; show ((_ : Nat) : Int) < ((_ : Nat) : Int); exact Int.ofNat_lt.2 h1
    · right
      exact ⟨congrArg (fun n : Nat => (n : Int)) h1, Int.ofNat_lt.2 h2⟩
end Go.Proofs.Ytoalihdempcbjaa
