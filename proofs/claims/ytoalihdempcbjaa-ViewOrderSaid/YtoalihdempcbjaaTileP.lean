/- The list of an image's tiles, plain: whatever the picks, it is the tiles of the grid in some order; each pixel is in one of them. -/
import Derived.Test.YtoalihdempcbjaaTilesN
namespace Go.Proofs.Ytoalihdempcbjaa
open Go.RowKit
set_option maxRecDepth 100000
set_option linter.unusedSimpArgs false
set_option linter.unusedVariables false
abbrev T4 := Nat × Nat × Nat × Nat
def fl1 (t : T4) : List Int := [(t.1 : Int), (t.2.1 : Int), (t.2.2.1 : Int), (t.2.2.2 : Int)]
def fl (l : List T4) : List Int := l.flatMap fl1
theorem fl_nil : fl [] = [] := rfl
theorem fl_cons (t : T4) (l : List T4) : fl (t :: l) = fl1 t ++ fl l := rfl
theorem fl_app (l m : List T4) : fl (l ++ m) = fl l ++ fl m := List.flatMap_append
theorem fl_len (l : List T4) : (fl l).length = l.length * 4 := by
  induction l with
  | nil => rfl
  | cons t l ih => rw [fl_cons, List.length_append, ih]; simp [fl1]; omega
theorem fl_take (l : List T4) (k : Nat) : (fl l).take (k * 4) = fl (l.take k) := by
  rcases Nat.lt_or_ge k l.length with h | h
  · conv => lhs; rw [← List.take_append_drop k l, fl_app]
    have e : (fl (l.take k)).length = k * 4 := by rw [fl_len, List.length_take]; omega
    rw [← e, List.take_left]
  · rw [List.take_of_length_le (by rw [fl_len]; omega), List.take_of_length_le h]
theorem fl_drop (l : List T4) (k : Nat) : (fl l).drop (k * 4) = fl (l.drop k) := by
  rcases Nat.lt_or_ge k l.length with h | h
  · conv => lhs; rw [← List.take_append_drop k l, fl_app]
    have e : (fl (l.take k)).length = k * 4 := by rw [fl_len, List.length_take]; omega
    rw [← e, List.drop_left]
  · rw [List.drop_of_length_le (by rw [fl_len]; omega), List.drop_of_length_le h, fl_nil]
theorem fl_at (l : List T4) (k : Nat) (h : k < l.length) (i : Nat) (hi : i < 4) : (fl l).getD (k * 4 + i) 0 = (fl1 l[k]).getD i 0 := by
  have e : l = l.take k ++ (l[k] :: l.drop (k + 1)) := by rw [← List.drop_eq_getElem_cons h, List.take_append_drop]
  have hl : (fl (l.take k)).length = k * 4 := by rw [fl_len, List.length_take]; omega
  have e2 : fl l = fl (l.take k) ++ (fl1 l[k] ++ fl (l.drop (k + 1))) := by rw [← fl_cons, ← fl_app, ← e]
  rw [List.getD_eq_getElem?_getD, List.getD_eq_getElem?_getD, e2, List.getElem?_append_right (by omega), hl, Nat.add_sub_cancel_left, List.getElem?_append_left (by simp [fl1]; omega)]
theorem tl4_fl (l : List T4) (k : Nat) (h : k < l.length) : tl4 (fl l) k = fl [l[k]] := by
  have e := fun i hi => fl_at l k h i hi
  rw [tl4]
  have e0 := e 0 (by omega)
  rw [Nat.add_zero] at e0
  rw [e0, e 1 (by omega), e 2 (by omega), e 3 (by omega)]
  rfl
theorem cutK_fl (l : List T4) (k : Nat) : cutK (fl l) k = fl (l.eraseIdx k) := by
  rw [cutK, fl_take, fl_drop, ← fl_app, List.eraseIdx_eq_take_drop_succ]
theorem erase_perm {α : Type} (l : List α) (k : Nat) (h : k < l.length) : (l[k] :: l.eraseIdx k).Perm l := by
  rw [List.eraseIdx_eq_take_drop_succ]
  conv => rhs; rw [← List.take_append_drop k l, List.drop_eq_getElem_cons h]
  exact List.perm_middle.symm
theorem step_fl (l o : List T4) (p : Int) : ∃ l' o', stepT (fl l, fl o) p = (fl l', fl o') ∧ (o' ++ l').Perm (o ++ l) := by
  by_cases h0 : l.length = 0
  · refine ⟨l, o, ?_, List.Perm.refl _⟩
    rw [stepT, if_pos (by show (fl l).length / 4 = 0; rw [fl_len]; omega)]
  · have hl : (fl l).length / 4 = l.length := by rw [fl_len]; omega
    have hk := pickK_lt p l.length (by omega)
    refine ⟨l.eraseIdx (pickK p l.length), o ++ [l[pickK p l.length]], ?_, ?_⟩
    · rw [stepT, if_neg (by show ¬ (fl l).length / 4 = 0; rw [hl]; exact h0)]
      show (cutK (fl l) (pickK p ((fl l).length / 4)), fl o ++ tl4 (fl l) (pickK p ((fl l).length / 4))) = _
      rw [hl, cutK_fl, tl4_fl l _ hk, fl_app]
    · rw [List.append_assoc]
      exact (erase_perm l _ hk).append_left o
theorem picked_fl (ps : List Int) : ∀ l o : List T4, ∃ l' o', picked (fl l, fl o) ps = (fl l', fl o') ∧ (o' ++ l').Perm (o ++ l) := by
  induction ps with
  | nil => exact fun l o => ⟨l, o, rfl, List.Perm.refl _⟩
  | cons p ps ih =>
    intro l o
    obtain ⟨l1, o1, h1, q1⟩ := step_fl l o p
    obtain ⟨l2, o2, h2, q2⟩ := ih l1 o1
    refine ⟨l2, o2, ?_, q2.trans q1⟩
    rw [picked, List.foldl_cons, h1]
    exact h2
def tileN (w h a b : Nat) : T4 := (4 * a, 4 * b, min 4 (w - 4 * a), min 4 (h - 4 * b))
def rowN (w h b i : Nat) : List T4 := (List.range i).map fun a => tileN w h a b
def gridN (w h nx j : Nat) : List T4 := (List.range j).flatMap fun b => rowN w h b nx
theorem tile_fl (w h a b : Nat) (ha : 4 * a < w) (hb : 4 * b < h) : fl1 (tileN w h a b) = tile1 (w : Int) (h : Int) (4 * (a : Int)) (4 * (b : Int)) := by
  unfold fl1 tileN tile1 mn
  simp only [List.cons.injEq, and_true]
  refine ⟨by omega, by omega, by omega, by omega⟩
theorem rowN_succ (w h b i : Nat) : rowN w h b (i + 1) = rowN w h b i ++ [tileN w h i b] := by
  rw [rowN, List.range_succ, List.map_append]; rfl
theorem gridN_succ (w h nx j : Nat) : gridN w h nx (j + 1) = gridN w h nx j ++ rowN w h j nx := by
  rw [gridN, List.range_succ, List.flatMap_append]; simp [gridN]
theorem row_fl (w h b : Nat) (hb : 4 * b < h) : ∀ i, 4 * i < w + 4 → rowG (w : Int) (h : Int) (4 * (b : Int)) i = fl (rowN w h b i) := by
  intro i
  induction i with
  | zero => intro _; rfl
  | succ i ih =>
    intro hi
    rw [rowG_succ, ih (by omega), rowN_succ, fl_app, ← tile_fl w h i b (by omega) hb]
    simp [fl]
theorem grid_fl (w h nx : Nat) (hx : 4 * nx < w + 4) : ∀ j, 4 * j < h + 4 → gridG (w : Int) (h : Int) nx j = fl (gridN w h nx j) := by
  intro j
  induction j with
  | zero => intro _; rfl
  | succ j ih =>
    intro hj
    rw [gridG_succ, ih (by omega), gridN_succ, fl_app, row_fl w h j (by omega) nx hx]
theorem nT_nat (w : Nat) : nT (w : Int) = (w + 3) / 4 := by unfold nT; omega
def gridA (w h : Nat) : List T4 := gridN w h ((w + 3) / 4) ((h + 3) / 4)
theorem gridF_fl (w h : Nat) : gridF (w : Int) (h : Int) = fl (gridA w h) := by
  rw [gridF, nT_nat, nT_nat, gridA]
  exact grid_fl w h _ (by omega) _ (by omega)
theorem tiles_fl (w h : Nat) (ps : List Int) : ∃ T, tilesL (w : Int) (h : Int) ps = fl T ∧ T.Perm (gridA w h) := by
  obtain ⟨l, o, h1, h2⟩ := picked_fl ps (gridA w h) []
  refine ⟨o ++ l, ?_, by simpa using h2⟩
  rw [tilesL, gridF_fl, show ([] : List Int) = fl [] from rfl, h1, fl_app]
/-- The pixels of a tile, row by row. -/
def colD (t : T4) (b a : Nat) : List Nat := (List.range a).map fun i => 64 * (t.2.1 + b) + (t.1 + i)
def rowD (t : T4) (b : Nat) : List Nat := (List.range b).flatMap fun j => colD t j t.2.2.1
def pix (t : T4) : List Nat := rowD t t.2.2.2
def pixL (l : List T4) : List Nat := l.flatMap pix
theorem colD_succ (t : T4) (b a : Nat) : colD t b (a + 1) = colD t b a ++ [64 * (t.2.1 + b) + (t.1 + a)] := by
  rw [colD, List.range_succ, List.map_append]; rfl
theorem rowD_succ (t : T4) (b : Nat) : rowD t (b + 1) = rowD t b ++ colD t b t.2.2.1 := by
  rw [rowD, List.range_succ, List.flatMap_append]; simp [rowD]
theorem pixL_succ (T : List T4) (i : Nat) (h : i < T.length) : pixL (T.take (i + 1)) = pixL (T.take i) ++ pix T[i] := by
  rw [List.take_succ_eq_append_getElem h, pixL, List.flatMap_append]; simp [pixL]
theorem colD_pre (t : T4) (b : Nat) {a a' : Nat} (h : a ≤ a') : colD t b a <+: colD t b a' := by
  obtain ⟨d, rfl⟩ := Nat.exists_eq_add_of_le h
  induction d with
  | zero => exact List.prefix_refl _
  | succ d ih => exact (ih (Nat.le_add_right _ _)).trans (by rw [← Nat.add_assoc, colD_succ]; exact List.prefix_append _ _)
theorem rowD_pre (t : T4) {b b' : Nat} (h : b ≤ b') : rowD t b <+: rowD t b' := by
  obtain ⟨d, rfl⟩ := Nat.exists_eq_add_of_le h
  induction d with
  | zero => exact List.prefix_refl _
  | succ d ih => exact (ih (Nat.le_add_right _ _)).trans (by rw [← Nat.add_assoc, rowD_succ]; exact List.prefix_append _ _)
theorem pixL_pre (T : List T4) (i : Nat) : pixL (T.take i) <+: pixL T := by
  refine ⟨pixL (T.drop i), ?_⟩
  rw [pixL, pixL, ← List.flatMap_append, List.take_append_drop]; rfl
theorem app_pre {l m n : List Nat} (h : m <+: n) : l ++ m <+: l ++ n := List.prefix_append_right_inj l |>.2 h
theorem done_pre (T : List T4) (i b a : Nat) (hi : i < T.length) (hb : b < (T[i]).2.2.2) (ha : a < (T[i]).2.2.1) :
    pixL (T.take i) ++ rowD T[i] b ++ colD T[i] b a ++ [64 * ((T[i]).2.1 + b) + ((T[i]).1 + a)] <+: pixL T := by
  have h1 : pixL (T.take i) ++ rowD T[i] b ++ colD T[i] b a ++ [64 * ((T[i]).2.1 + b) + ((T[i]).1 + a)] = pixL (T.take i) ++ (rowD T[i] b ++ colD T[i] b (a + 1)) := by
    rw [colD_succ]; simp only [List.append_assoc]
  rw [h1]
  refine (app_pre ?_).trans (by rw [← pixL_succ T i hi]; exact pixL_pre T (i + 1))
  refine (app_pre (colD_pre T[i] b (Nat.succ_le_of_lt ha))).trans ?_
  rw [← rowD_succ]
  exact rowD_pre T[i] (Nat.succ_le_of_lt hb)
/-- A pixel that comes next was not there before. -/
theorem done_new (T : List T4) (hT : (pixL T).Nodup) (i b a : Nat) (hi : i < T.length) (hb : b < (T[i]).2.2.2) (ha : a < (T[i]).2.2.1) :
    64 * ((T[i]).2.1 + b) + ((T[i]).1 + a) ∉ pixL (T.take i) ++ rowD T[i] b ++ colD T[i] b a := by
  have h := List.Nodup.sublist (List.IsPrefix.sublist (done_pre T i b a hi hb ha)) hT
  intro hm
  exact (List.nodup_append.1 h).2.2 _ hm _ (List.mem_singleton.2 rfl) rfl
theorem mem_colD {t : T4} {b a p : Nat} : p ∈ colD t b a ↔ ∃ i, i < a ∧ 64 * (t.2.1 + b) + (t.1 + i) = p := by simp [colD]
theorem mem_rowD {t : T4} {b p : Nat} : p ∈ rowD t b ↔ ∃ j, j < b ∧ ∃ i, i < t.2.2.1 ∧ 64 * (t.2.1 + j) + (t.1 + i) = p := by simp [rowD, mem_colD]
theorem mem_pix {t : T4} {p : Nat} : p ∈ pix t ↔ ∃ j, j < t.2.2.2 ∧ ∃ i, i < t.2.2.1 ∧ 64 * (t.2.1 + j) + (t.1 + i) = p := mem_rowD
theorem mem_grid {w h nx j : Nat} {t : T4} : t ∈ gridN w h nx j ↔ ∃ b, b < j ∧ ∃ a, a < nx ∧ tileN w h a b = t := by simp [gridN, rowN]
theorem pix_nodup (w h a b : Nat) (hw : w ≤ 64) : (pix (tileN w h a b)).Nodup := by
  refine List.pairwise_flatMap.2 ⟨fun j _ => ?_, ?_⟩
  · rw [colD, List.pairwise_map]
    exact List.pairwise_lt_range.imp (fun hlt e => by omega)
  · refine List.pairwise_lt_range.imp (fun {j j'} hlt x hx y hy e => ?_)
    obtain ⟨i, hi, e1⟩ := mem_colD.1 hx
    obtain ⟨i', hi', e2⟩ := mem_colD.1 hy
    simp only [tileN] at hi hi' e1 e2
    omega
theorem grid_nodup (w h nx j : Nat) (hw : w ≤ 64) : (pixL (gridN w h nx j)).Nodup := by
  refine List.pairwise_flatMap.2 ⟨fun t ht => ?_, ?_⟩
  · obtain ⟨b, _, a, _, rfl⟩ := mem_grid.1 ht
    exact pix_nodup w h a b hw
  · refine List.pairwise_flatMap.2 ⟨fun b _ => ?_, ?_⟩
    · rw [rowN, List.pairwise_map]
      refine List.pairwise_lt_range.imp (fun {a a'} hlt x hx y hy e => ?_)
      obtain ⟨j1, h1, i1, g1, e1⟩ := mem_pix.1 hx
      obtain ⟨j2, h2, i2, g2, e2⟩ := mem_pix.1 hy
      simp only [tileN] at h1 g1 e1 h2 g2 e2
      omega
    · refine List.pairwise_lt_range.imp (fun {b b'} hlt t ht t' ht' x hx y hy e => ?_)
      simp only [rowN, List.mem_map, List.mem_range] at ht ht'
      obtain ⟨a, _, rfl⟩ := ht
      obtain ⟨a', _, rfl⟩ := ht'
      obtain ⟨j1, h1, i1, g1, e1⟩ := mem_pix.1 hx
      obtain ⟨j2, h2, i2, g2, e2⟩ := mem_pix.1 hy
      simp only [tileN] at h1 g1 e1 h2 g2 e2
      omega
def fullD (w h : Nat) : List Nat := (List.range h).flatMap fun y => (List.range w).map fun x => 64 * y + x
theorem full_len (w h : Nat) : (fullD w h).length = w * h := by
  induction h with
  | zero => rfl
  | succ h ih => rw [fullD, List.range_succ, List.flatMap_append, List.length_append]; rw [fullD] at ih; rw [ih]; simp [Nat.mul_succ]
theorem full_nodup (w h : Nat) (hw : w ≤ 64) : (fullD w h).Nodup := by
  refine List.pairwise_flatMap.2 ⟨fun y _ => ?_, ?_⟩
  · rw [List.pairwise_map]
    exact List.pairwise_lt_range.imp (fun hlt e => by omega)
  · refine List.pairwise_lt_range.imp (fun {y y'} hlt p hp q hq e => ?_)
    simp only [List.mem_map, List.mem_range] at hp hq
    obtain ⟨x, hx, e1⟩ := hp
    obtain ⟨x', hx', e2⟩ := hq
    omega
theorem grid_mem (w h p : Nat) : p ∈ pixL (gridA w h) ↔ p ∈ fullD w h := by
  simp only [pixL, gridA, List.mem_flatMap, mem_grid, fullD, List.mem_range, List.mem_map]
  constructor
  · rintro ⟨t, ⟨b, hb, a, ha, rfl⟩, hp⟩
    obtain ⟨j, hj, i, hi, e⟩ := mem_pix.1 hp
    simp only [tileN] at hj hi e
    exact ⟨4 * b + j, by omega, 4 * a + i, by omega, e⟩
  · rintro ⟨y, hy, x, hx, e⟩
    refine ⟨_, ⟨y / 4, by omega, x / 4, by omega, rfl⟩, mem_pix.2 ⟨y % 4, ?_, x % 4, ?_, ?_⟩⟩
    · simp only [tileN]; omega
    · simp only [tileN]; omega
    · simp only [tileN]; omega
theorem grid_len (w h : Nat) (hw : w ≤ 64) : (pixL (gridA w h)).length = w * h := by
  rw [← full_len w h]
  exact ((List.perm_ext_iff_of_nodup (grid_nodup w h _ _ hw) (full_nodup w h hw)).2 (grid_mem w h)).length_eq
/-- What the tiles are good for: their number, each within the image, their pixels once each, as many as there are. -/
theorem tiles_good (w h : Nat) (hw : w ≤ 64) (hh : h ≤ 64) (ps : List Int) : ∃ T, tilesL (w : Int) (h : Int) ps = fl T ∧ (∀ t ∈ T, t.1 + t.2.2.1 ≤ w ∧ t.2.1 + t.2.2.2 ≤ h ∧ t.2.2.1 ≤ 4 ∧ t.2.2.2 ≤ 4) ∧ (pixL T).Nodup ∧ (pixL T).length = w * h := by
  obtain ⟨T, h1, h2⟩ := tiles_fl w h ps
  have hp : (pixL T).Perm (pixL (gridA w h)) := h2.flatMap_right pix
  refine ⟨T, h1, fun t ht => ?_, hp.nodup_iff.2 (grid_nodup w h _ _ hw), hp.length_eq.trans (grid_len w h hw)⟩
  obtain ⟨b, hb, a, ha, rfl⟩ := mem_grid.1 (h2.mem_iff.1 ht)
  simp only [tileN]
  omega
end Go.Proofs.Ytoalihdempcbjaa
