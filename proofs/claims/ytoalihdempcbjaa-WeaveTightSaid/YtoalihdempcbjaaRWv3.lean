/- What relievoref13.Weave answers: nothing where a rate is out of bounds. Appending spots and triangles. -/
import Derived.Test.YtoalihdempcbjaaRWv2
namespace Go.Proofs.Ytoalihdempcbjaa
open Go.RowKit
set_option maxRecDepth 100000
set_option linter.unusedSimpArgs false
set_option linter.unusedVariables false
theorem row_mono {w : World} {B B' n sz : Nat} {e : TypeId} {v : Value} {xs : List Value} (h : w.ownsRow B e sz v n xs) (hB : B' ≤ B) : w.ownsRow B' e sz v n xs := by
  refine ⟨h.1, ?_⟩
  rcases h.2 with h | ⟨g, cap, cur, h1, h2, h3⟩
  · exact .inl h
  · exact .inr ⟨g, cap, cur, h1, Nat.le_trans hB h2, h3⟩
theorem wpList_sp {ops : Array Oper} {rest : List Oper} {o : Oper} {a : Act} {Q : Exit → Act → World → Prop} (w : World) (hgd : o.guard = none) (s x : Operand)
    (ho : o.op = .call { callee := .builtin .append, args := #[s, x], argTypes := #[45, 45] })
    (B : Nat) (v : Value) (n : Nat) (l : List T3) (hs : a.eval s = v) (hown : Sps w B v n l)
    (ad : Addr) (c : Nat) (t : T3) (hx : a.eval x = .slice (some ad) 1 c) (hnews : ∀ j u, (c3 t)[j]? = some u → w.cell? (ad.add j) = some u)
    (hsm : n ≤ 100000) (hbase : B ≤ w.heap.size)
    (h : ∀ v' w', Sps w' B v' (n + 1) (l ++ [t]) → w.grownBy w' v.ownBlock → wpList Try.prog ops Q rest (a.put o.dst v') w') :
    wpList Try.prog ops Q (o :: rest) a w := by
  obtain ⟨i0, ji, jz0, jz1, jz2⟩ := infoS
  refine wpList_append_own_at w hgd s x _ ho B 50 i0 (.agg #[.int .i64 0, .int .i64 0, .int .i64 0]) 3 24 Try.underlying45 ji jz0 jz1 jz2 rfl (by decide) v n (fl3 l) hs hown ad 1 c (c3 t) hx rfl hnews (one3 t) (by unfold maxLen; omega) (by omega) hbase (fun v' w' h1 h2 _ _ => h v' w' ?_ h2)
  rw [Sps, fl3_app, fl3_one]; exact h1
theorem one3l (l : List T3) : ∀ u ∈ fl3 l, u.oneCell' = true := by
  intro u hu
  rw [fl3, List.mem_flatMap] at hu
  obtain ⟨t, _, hu⟩ := hu
  exact one3 t u hu
theorem wpList_tr {ops : Array Oper} {rest : List Oper} {o : Oper} {a : Act} {Q : Exit → Act → World → Prop} (w : World) (hgd : o.guard = none) (s x : Operand)
    (ho : o.op = .call { callee := .builtin .append, args := #[s, x], argTypes := #[46, 46] })
    (B : Nat) (v : Value) (n : Nat) (l : List T3) (hs : a.eval s = v) (hown : Trs w B v n l)
    (ad : Addr) (m c : Nat) (ts : List T3) (hx : a.eval x = .slice (some ad) m c) (hl : ts.length = m) (hnews : ∀ j u, (fl3 ts)[j]? = some u → w.cell? (ad.add j) = some u)
    (hsm : n + m ≤ 100000) (hbase : B ≤ w.heap.size)
    (h : ∀ v' w', Trs w' B v' (n + m) (l ++ ts) → w.grownBy w' v.ownBlock → wpList Try.prog ops Q rest (a.put o.dst v') w') :
    wpList Try.prog ops Q (o :: rest) a w := by
  obtain ⟨i0, ji, jz0, jz1, jz2⟩ := info3
  refine wpList_append_own_at w hgd s x _ ho B 51 i0 (.agg #[.int .i64 0, .int .i64 0, .int .i64 0]) 3 24 Try.underlying46 ji jz0 jz1 jz2 rfl (by decide) v n (fl3 l) hs hown ad m c (fl3 ts) hx (by rw [fl3_len, hl]) hnews (one3l ts) (by unfold maxLen; omega) (by omega) hbase (fun v' w' h1 h2 _ _ => h v' w' ?_ h2)
  rw [Trs, fl3_app]; exact h1
def xs4 (a b c d : Int) (j : Nat) : Int := match j with | 0 => a | 1 => b | 2 => c | _ => d
theorem cell4 {W : World} {bl : Nat} {a b c d : Int} (h : ∀ o, W.cell? ⟨bl, o, none⟩ = (#[.int .i64 a, .int .i64 b, .int .i64 c, .int .i64 d] : Array Value)[o]?) (j : Nat) (hj : j < 4) : W.cell? ⟨bl, j, none⟩ = some (.int .i64 (xs4 a b c d j)) := by
  rw [h j]
  match j, hj with
  | 0, _ => rfl
  | 1, _ => rfl
  | 2, _ => rfl
  | 3, _ => rfl
theorem first_bad {a b c d : Int} (h : ¬ ok4 a b c d) : ∃ k, k < 4 ∧ (∀ j, j < k → 1 ≤ xs4 a b c d j ∧ xs4 a b c d j ≤ 16) ∧ ¬ (1 ≤ xs4 a b c d k ∧ xs4 a b c d k ≤ 16) := by
  by_cases h0 : 1 ≤ a ∧ a ≤ 16
  · by_cases h1 : 1 ≤ b ∧ b ≤ 16
    · by_cases h2 : 1 ≤ c ∧ c ≤ 16
      · refine ⟨3, by omega, fun j hj => ?_, fun k => h ⟨h0, h1, h2, k⟩⟩
        match j, hj with
        | 0, _ => exact h0
        | 1, _ => exact h1
        | 2, _ => exact h2
      · refine ⟨2, by omega, fun j hj => ?_, h2⟩
        match j, hj with
        | 0, _ => exact h0
        | 1, _ => exact h1
    · refine ⟨1, by omega, fun j hj => ?_, h1⟩
      match j, hj with
      | 0, _ => exact h0
  · exact ⟨0, by omega, fun j hj => absurd hj (by omega), h0⟩
def RnRel (K B : Nat) (w : World) (k : Nat) (m i : Value) (wr : World) : Prop := ∃ (j : Nat) (M : Int), j ≤ K ∧ k = K - j ∧ i = .int .i64 (j : Int) ∧ m = .int .i64 M ∧ Below B w wr
set_option maxHeartbeats 2000000 in
theorem rweave_no (a b c d : Int) (h : ¬ ok4 a b c d) (w : World) :
    Calls Try.prog 23 #[.agg #[.int .i64 a, .int .i64 b, .int .i64 c, .int .i64 d]] w fun e w' => e = .returned (.tuple #[.slice none 0 0, .slice none 0 0, .bool false]) ∧ Below w.heap.size w w' := by
  obtain ⟨K, hK, hlo, hbad⟩ := first_bad h
  have HLO := Lib.hid hlo
  have HBAD := Lib.hid hbad
  clear h hlo hbad
  go_enter Try.func23, Try.ntmps23
  go_wp2_with fail
  go_loopg [5, 6] K (fun k m i wr => RnRel K (w.heap.size + 1) (w.alloc (.cells #[.int .i64 a, .int .i64 b, .int .i64 c, .int .i64 d] 44)) k m i wr)
  case atStart => exact ⟨0, 0, by omega, rfl, rfl, rfl, Below.refl _ _⟩
  case round =>
    obtain ⟨j, M, hj, rfl, rfl, rfl, hb⟩ := hrel
    have HBW := Lib.hid hb
    have HB := Lib.hid (show Below w.heap.size w wr from ((Below.refl _ _).alloc (Nat.le_refl _) _).trans (hb.mono (Nat.le_succ _)))
    have K0 := cell4 (new_at (W := w) rfl (#[.int .i64 a, .int .i64 b, .int .i64 c, .int .i64 d] : Array Value) 44) j (by omega)
    have cj : wr.cell? ⟨w.heap.size, j, none⟩ = some (.int .i64 (xs4 a b c d j)) := (hb.cell (p := ⟨w.heap.size, j, none⟩) (Nat.lt_succ_self _)).trans K0
    have hj0 : (0 : Int) ≤ (j : Int) := by omega
    have hj1 : (j : Int) < 4 := by omega
    clear K0 hb
    by_cases hlt : j < K
    · have hx := HLO.out j hlt
      generalize xs4 a b c d j = x at cj hx
      have x1 : ¬ x < 1 := by omega
      have x2 : ¬ (16 : Int) < x := by omega
      clear hx
      go_wp2_with fail
      go_roundg (K - (j + 1))
      case measure => omega
      case rel => exact ⟨j + 1, _, by omega, rfl, by simp, rfl, HBW.out⟩
    · obtain rfl : j = K := by omega
      have hx := HBAD.out
      generalize xs4 a b c d j = x at cj hx
      by_cases x1 : x < 1
      · clear hx
        go_wp2_with fail
        have HB' := HB.out
        go_returns
        exact ⟨by simp, by (repeat' (first | (with_reducible exact Below.refl _ _) | (with_reducible refine bstep (by with_reducible assumption) ?_) | (with_reducible refine Below.alloc ?_ ?_ _) | (with_reducible refine Below.drew ?_) | (with_reducible refine below_drewN ?_ _) | (with_reducible refine Below.setCell ?_ ?_ _) | go_size))⟩
      · have x2 : (16 : Int) < x := by omega
        clear hx
        go_wp2_with fail
        have HB' := HB.out
        go_returns
        exact ⟨by simp, by (repeat' (first | (with_reducible exact Below.refl _ _) | (with_reducible refine bstep (by with_reducible assumption) ?_) | (with_reducible refine Below.alloc ?_ ?_ _) | (with_reducible refine Below.drew ?_) | (with_reducible refine below_drewN ?_ _) | (with_reducible refine Below.setCell ?_ ?_ _) | go_size))⟩
end Go.Proofs.Ytoalihdempcbjaa
