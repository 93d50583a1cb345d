/- The law on a patch's points and the box, walked: for all points and numbers of 64 bits it answers true. -/
import Derived.Test.YtdemcleibpgglaaPoint
import Derived.Test.YtdemcleibpgglaaArr
import Derived.Test.YtdemcleibpgglaaBound
namespace Go.Proofs.Ytdemcleibpgglaa
open Go.RowKit
set_option maxRecDepth 100000
set_option linter.unusedSimpArgs false
set_option linter.unusedVariables false
theorem sums_ge {X Wt : Nat → Int} {n c : Nat} {l : Int} (hW : ∀ j, j < n → 0 ≤ Wt j) (hX : ∀ j, j < n → l ≤ X (j * 3 + c)) : ∀ k, k ≤ n → l * alls Wt k ≤ sums X Wt c k
  | 0, _ => by simp [sums, alls]
  | k + 1, hk => by
    have a := sums_ge hW hX k (by omega)
    have b := Int.mul_le_mul_of_nonneg_right (hX k (by omega)) (hW k (by omega))
    simp only [sums, alls, Int.mul_add]; omega
theorem sums_up {X Wt : Nat → Int} {n c : Nat} {l : Int} (hW : ∀ j, j < n → 0 ≤ Wt j) (hX : ∀ j, j < n → X (j * 3 + c) ≤ l) : ∀ k, k ≤ n → sums X Wt c k ≤ l * alls Wt k
  | 0, _ => by simp [sums, alls]
  | k + 1, hk => by
    have a := sums_up hW hX k (by omega)
    have b := Int.mul_le_mul_of_nonneg_right (hX k (by omega)) (hW k (by omega))
    simp only [sums, alls, Int.mul_add]; omega
theorem pt_in (X : Nat → Int) (c : Nat) {i n j m : Int} (h : there i n = true) (h' : there j m = true) : lo X c 15 ≤ ptv X c i n j m ∧ ptv X c i n j m ≤ hi X c 15 := by
  have p : 1 ≤ n * n * n * (m * m * m) := by
    have := Int.mul_le_mul (cube_pos (there_iff.1 h).1) (cube_pos (there_iff.1 h').1) (by omega) (by have := cube_pos (there_iff.1 h).1; omega)
    omega
  have a := sums_ge (X := X) (Wt := wtp i n j m) (n := 16) (c := c) (l := lo X c 15) (fun t ht => (wtp_le h h' t ht).1) (fun t ht => lo_le X c 15 t (by omega)) 16 (by omega)
  have b := sums_up (X := X) (Wt := wtp i n j m) (n := 16) (c := c) (l := hi X c 15) (fun t ht => (wtp_le h h' t ht).1) (fun t ht => le_hi X c 15 t (by omega)) 16 (by omega)
  rw [wtp_alls] at a b
  exact ⟨rnd_ge _ _ _ (by omega) a, rnd_le _ _ _ (by omega) b⟩
theorem inside_no (cs : Array Value) (X : Nat → Int) (hX : Is48 cs X) (i n j m : Int) (h : okPt X i n j m = false) (w : World) :
    Calls Try.prog 9 #[.agg cs, .int .i64 i, .int .i64 n, .int .i64 j, .int .i64 m] w fun e w' => e = .returned (.bool true) ∧ Below w.heap.size w w' := by
  have K := Lib.hid (point_is cs X hX i n j m false 0 0 0 h rfl rfl rfl)
  obtain ⟨hs48, _⟩ := hX
  have hs0 : 0 < cs.size := by omega
  clear h
  go_enter Try.func9, Try.ntmps9
  go_wp2_with (first
    | (go_at_call 16; ((with_reducible refine (alive11_any _).mono ?_); rintro e w1 ⟨rfl, hb1⟩; have A1 := Lib.hid (blk_later hs0 hb1 (by (repeat (first | (with_reducible assumption) | (focus ((with_reducible refine new_at ?_ _ _); (repeat (first | (with_reducible rfl) | (with_reducible refine sz1 ?_))); done)) | (with_reducible refine blk_alloc hs0 _ ?_) | (with_reducible refine blk_drew ?_)))) : ∀ o, w1.cell? ⟨w.heap.size, o, none⟩ = cs[o]?)))
    | (((refine (load_arr rfl _ rfl w.heap.size rfl cs hs48 ?_ ?_)); (focus ((repeat (first | (with_reducible exact Hid.out (by assumption)) | (with_reducible refine blk_alloc hs0 _ ?_) | (with_reducible refine blk_drew ?_)))))))
    | (go_at_call 25; ((with_reducible refine (K.out _).mono ?_); rintro e w2 ⟨rfl, hb2⟩; have A2 := Lib.hid (blk_later hs0 hb2 A1.out); have hs2 : w.heap.size < w2.heap.size := blk_lt hs0 A2.out)))
  go_returns
  exact ⟨by simp, by (repeat' (first | (with_reducible exact Below.refl _ _) | (with_reducible refine bstep (by with_reducible assumption) ?_) | (with_reducible refine Below.alloc ?_ ?_ _) | (with_reducible refine Below.drew ?_) | (with_reducible refine below_drewN ?_ _) | (with_reducible refine Below.setCell ?_ ?_ _) | go_size))⟩
set_option maxHeartbeats 2000000 in
theorem inside_yes (cs : Array Value) (X : Nat → Int) (hX : Is48 cs X) (i n j m : Int) (h : okPt X i n j m = true) (w : World) :
    Calls Try.prog 9 #[.agg cs, .int .i64 i, .int .i64 n, .int .i64 j, .int .i64 m] w fun e w' => e = .returned (.bool true) ∧ Below w.heap.size w w' := by
  have K := point_is cs X hX i n j m true _ _ _ h rfl rfl rfl
  have hh := h
  simp only [okPt, Bool.and_eq_true] at hh
  have b0 := pt_in X 0 hh.1.1 hh.1.2
  have b1 := pt_in X 1 hh.1.1 hh.1.2
  have b2 := pt_in X 2 hh.1.1 hh.1.2
  simp only [ptF, if_true] at K
  have BO : ∀ b w, b < w.heap.size → (∀ o, w.cell? ⟨b, o, none⟩ = cs[o]?) → Calls Try.prog 26 #[.slice (some ⟨b, 0, none⟩) 16 16] w fun e w' => e = .returned (.tuple #[B6 (lo X 0 15) (lo X 1 15) (lo X 2 15) (hi X 0 15) (hi X 1 15) (hi X 2 15), .bool true]) ∧ Below w.heap.size w w' :=
    fun b w hb hc => bound_some 16 _ X (by omega) w (.inr ⟨b, 0, 16, rfl, by omega, by omega, by decide, hb, fun o ho => by rw [Nat.zero_add]; exact (hc o).trans (hX.2 o (by omega))⟩)
  have HA := fun w => has_any (lo X 0 15) (lo X 1 15) (lo X 2 15) (hi X 0 15) (hi X 1 15) (hi X 2 15) (ptv X 0 i n j m) (ptv X 1 i n j m) (ptv X 2 i n j m) w
  rw [show hasB (lo X 0 15) (lo X 1 15) (lo X 2 15) (hi X 0 15) (hi X 1 15) (hi X 2 15) (ptv X 0 i n j m) (ptv X 1 i n j m) (ptv X 2 i n j m) = true by simp only [hasB, btw, Bool.and_eq_true, decide_eq_true_eq]; exact ⟨⟨b0, b1⟩, b2⟩] at HA
  obtain ⟨p, ep⟩ : ∃ p, ptv X 0 i n j m = p := ⟨_, rfl⟩
  obtain ⟨q, eq⟩ : ∃ p, ptv X 1 i n j m = p := ⟨_, rfl⟩
  obtain ⟨r, er⟩ : ∃ p, ptv X 2 i n j m = p := ⟨_, rfl⟩
  obtain ⟨l0, e0⟩ : ∃ p, lo X 0 15 = p := ⟨_, rfl⟩
  obtain ⟨l1, e1⟩ : ∃ p, lo X 1 15 = p := ⟨_, rfl⟩
  obtain ⟨l2, e2⟩ : ∃ p, lo X 2 15 = p := ⟨_, rfl⟩
  obtain ⟨u0, e3⟩ : ∃ p, hi X 0 15 = p := ⟨_, rfl⟩
  obtain ⟨u1, e4⟩ : ∃ p, hi X 1 15 = p := ⟨_, rfl⟩
  obtain ⟨u2, e5⟩ : ∃ p, hi X 2 15 = p := ⟨_, rfl⟩
  rw [ep, eq, er] at K
  rw [ep, eq, er, e0, e1, e2, e3, e4, e5] at HA
  rw [e0, e1, e2, e3, e4, e5] at BO
  have K := Lib.hid K
  have HA := Lib.hid HA
  have BO := Lib.hid BO
  obtain ⟨hs48, _⟩ := hX
  have hs0 : 0 < cs.size := by omega
  clear h hh b0 b1 b2 ep eq er e0 e1 e2 e3 e4 e5
  go_enter Try.func9, Try.ntmps9
  go_wp2_with (first
    | (go_at_call 16; ((with_reducible refine (alive11_any _).mono ?_); rintro e w1 ⟨rfl, hb1⟩; have A1 := Lib.hid (blk_later hs0 hb1 (by (repeat (first | (with_reducible assumption) | (focus ((with_reducible refine new_at ?_ _ _); (repeat (first | (with_reducible rfl) | (with_reducible refine sz1 ?_))); done)) | (with_reducible refine blk_alloc hs0 _ ?_) | (with_reducible refine blk_drew ?_)))) : ∀ o, w1.cell? ⟨w.heap.size, o, none⟩ = cs[o]?)))
    | (((refine (load_arr rfl _ rfl w.heap.size rfl cs hs48 ?_ ?_)); (focus ((repeat (first | (with_reducible exact Hid.out (by assumption)) | (with_reducible refine blk_alloc hs0 _ ?_) | (with_reducible refine blk_drew ?_)))))))
    | (go_at_call 25; ((with_reducible refine (K.out _).mono ?_); rintro e w2 ⟨rfl, hb2⟩; have A2 := Lib.hid (blk_later hs0 hb2 A1.out); have hs2 : w.heap.size < w2.heap.size := blk_lt hs0 A2.out; clear A1))
    | (go_at_call 26; ((refine (BO.out _ _ (lt_here hs2) (blk_alloc hs0 _ A2.out)).mono ?_); rintro e w3 ⟨rfl, hb3⟩; have Q3 := blk_later (by simp) hb3 (new_at rfl _ _); have hs3 : w2.heap.size < w3.heap.size := blk_lt (by simp) Q3))
    | (go_at_call 27; ((with_reducible refine (HA.out _).mono ?_); rintro e w4 ⟨rfl, hb4⟩)))
  go_returns
  exact ⟨by simp, by (repeat' (first | (with_reducible exact Below.refl _ _) | (with_reducible refine bstep (by with_reducible assumption) ?_) | (with_reducible refine Below.alloc ?_ ?_ _) | (with_reducible refine Below.drew ?_) | (with_reducible refine below_drewN ?_ _) | (with_reducible refine Below.setCell ?_ ?_ _) | go_size))⟩
theorem curveInside_walk (xs : List Int) (hl : xs.length = 48) (_ : ∀ x ∈ xs, I64 x) (i : Int) (hi : I64 i) (n : Int) (hn : I64 n) (j : Int) (hj : I64 j) (m : Int) (hm : I64 m) (w : World) :
    Calls Try.prog 9 #[.agg (xs.map (Value.int .i64)).toArray, .int .i64 i, .int .i64 n, .int .i64 j, .int .i64 m] w fun e w' => e = .returned (.bool true) ∧ Below w.heap.size w w' := by
  cases h : okPt (fun k => xs.getD k 0) i n j m
  · exact inside_no _ _ (is48_list hl) i n j m h w
  · exact inside_yes _ _ (is48_list hl) i n j m h w
end Go.Proofs.Ytdemcleibpgglaa
