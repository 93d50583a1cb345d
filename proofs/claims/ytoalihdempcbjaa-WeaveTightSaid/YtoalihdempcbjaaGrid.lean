/- The list of an image's tiles, and what a pick makes of it: plain; appending tiles to a list that is owned. -/
import Derived.Test.YtoalihdempcbjaaTakenG
import Derived.Test.YtoalihdempcbjaaMinMax
import Derived.Maps.AppendAt
namespace Go.Proofs.Ytoalihdempcbjaa
open Go.RowKit
set_option maxRecDepth 100000
set_option linter.unusedSimpArgs false
set_option linter.unusedVariables false
def tile1 (w h x y : Int) : List Int := [x, y, mn 4 (w - x), mn 4 (h - y)]
def rowG (w h y : Int) (i : Nat) : List Int := (List.range i).flatMap fun (a : Nat) => tile1 w h (4 * (a : Int)) y
def gridG (w h : Int) (nx j : Nat) : List Int := (List.range j).flatMap fun (b : Nat) => rowG w h (4 * (b : Int)) nx
def nT (w : Int) : Nat := ((w + 3) / 4).toNat
theorem rowG_succ (w h y : Int) (i : Nat) : rowG w h y (i + 1) = rowG w h y i ++ tile1 w h (4 * (i : Int)) y := by
  rw [rowG, List.range_succ, List.flatMap_append]; simp [rowG]
theorem gridG_succ (w h : Int) (nx j : Nat) : gridG w h nx (j + 1) = gridG w h nx j ++ rowG w h (4 * (j : Int)) nx := by
  rw [gridG, List.range_succ, List.flatMap_append]; simp [gridG]
theorem rowG_len (w h y : Int) (i : Nat) : (rowG w h y i).length = i * 4 := by
  induction i with
  | zero => rfl
  | succ i ih => rw [rowG_succ, List.length_append, ih]; simp [tile1]; omega
theorem gridG_len (w h : Int) (nx j : Nat) : (gridG w h nx j).length = j * nx * 4 := by
  induction j with
  | zero => simp [gridG]
  | succ j ih => rw [gridG_succ, List.length_append, ih, rowG_len, Nat.add_mul j 1 nx, Nat.one_mul, Nat.add_mul]
def gridF (w h : Int) : List Int := gridG w h (nT w) (nT h)
def pickK (p : Int) (n : Nat) : Nat := (if p.tmod n < 0 then p.tmod n + n else p.tmod n).toNat
theorem tmod_bounds (p : Int) (n : Nat) (hn : 0 < n) : -(n : Int) < p.tmod n ∧ p.tmod n < n := by
  have h1 := Int.tmod_lt_of_pos p (show (0 : Int) < n by omega)
  have h2 := Int.lt_tmod_of_pos p (show (0 : Int) < n by omega)
  exact ⟨h2, h1⟩
theorem pickK_lt (p : Int) (n : Nat) (hn : 0 < n) : pickK p n < n := by
  have := tmod_bounds p n hn
  unfold pickK; split <;> omega
def tl4 (zs : List Int) (k : Nat) : List Int := [zs.getD (k * 4) 0, zs.getD (k * 4 + 1) 0, zs.getD (k * 4 + 2) 0, zs.getD (k * 4 + 3) 0]
theorem cutK_len {zs : List Int} {n k : Nat} (hz : zs.length = n * 4) (hk : k < n) : (cutK zs k).length = (n - 1) * 4 := by
  rw [cutK, List.length_append, List.length_take, List.length_drop, hz]; omega
def stepT (s : List Int × List Int) (p : Int) : List Int × List Int :=
  if s.1.length / 4 = 0 then s else (cutK s.1 (pickK p (s.1.length / 4)), s.2 ++ tl4 s.1 (pickK p (s.1.length / 4)))
def picked (s : List Int × List Int) (ps : List Int) : List Int × List Int := ps.foldl stepT s
theorem picked_snoc (s : List Int × List Int) (ps : List Int) (p : Int) : picked s (ps ++ [p]) = stepT (picked s ps) p := by simp [picked]
theorem picked_none (s : List Int × List Int) (h : s.1.length / 4 = 0) (ps : List Int) : picked s ps = s := by
  induction ps with
  | nil => rfl
  | cons p ps ih => rw [picked, List.foldl_cons, stepT, if_pos h]; exact ih
theorem picked_take (s : List Int × List Int) (ps : List Int) (j : Nat) (h : (picked s (ps.take j)).1.length / 4 = 0) : picked s ps = picked s (ps.take j) := by
  conv => lhs; rw [← List.take_append_drop j ps]
  rw [picked, List.foldl_append]
  exact picked_none _ h _
theorem picked_next (s : List Int × List Int) (ps : List Int) (j : Nat) (hj : j < ps.length) : picked s (ps.take (j + 1)) = stepT (picked s (ps.take j)) (ps.getD j 0) := by
  rw [List.take_succ_eq_append_getElem hj, picked_snoc, List.getD_eq_getElem?_getD, List.getElem?_eq_getElem hj]; rfl
def tilesL (w h : Int) (ps : List Int) : List Int := (picked (gridF w h, []) ps).2 ++ (picked (gridF w h, []) ps).1
theorem tls_len {w : World} {B n : Nat} {v : Value} {zs : List Int} (h : Tls w B v n zs) : zs.length = n * 4 := by
  rw [← h.1, List.length_map]
theorem tls_nil (W : World) (B : Nat) (v : Value) (h : v = .slice none 0 0) : Tls W B v 0 [] := own_nil W B v h
theorem tls_ge {w : World} {B n : Nat} {v : Value} {zs : List Int} (h : Tls w B v n zs) : ∀ k, v.ownBlock = some k → B ≤ k := own_geT h
theorem tls_form {w : World} {B n : Nat} {v : Value} {zs : List Int} (h : Tls w B v n zs) (hn : 0 < n) : ∃ g cap, v = .slice (some ⟨g, 0, none⟩) n cap ∧ B ≤ g ∧ g < w.heap.size := World.ownsRow.form h hn
theorem tls_kept {w w' : World} {B n : Nat} {v : Value} {zs : List Int} {r : Option Nat} (h : Tls w B v n zs) (hg : w.grownBy w' r) (hne : v.ownBlock = none ∨ v.ownBlock ≠ r) : Tls w' B v n zs := World.ownsRow.kept h hg hne
theorem tls_lt {w : World} {B n : Nat} {v : Value} {zs : List Int} (h : Tls w B v n zs) : ∀ k, v.ownBlock = some k → B ≤ k ∧ k < w.heap.size := World.ownsRow.lt h
theorem wpList_tl {ops : Array Oper} {rest : List Oper} {o : Oper} {a : Act} {Q : Exit → Act → World → Prop} (w : World) (hgd : o.guard = none) (s x : Operand)
    (ho : o.op = .call { callee := .builtin .append, args := #[s, x], argTypes := #[31, 31] })
    (B : Nat) (v : Value) (n : Nat) (zs : List Int) (hs : a.eval s = v) (hown : Tls w B v n zs)
    (ad : Addr) (m c : Nat) (ys : List Int) (hx : a.eval x = .slice (some ad) m c) (hl : ys.length = m * 4) (hnews : ∀ j, j < m * 4 → w.cell? (ad.add j) = some (.int .i64 (ys.getD j 0)))
    (hsm : n + m ≤ 100000) (hbase : B ≤ w.heap.size)
    (h : ∀ v' w', Tls w' B v' (n + m) (zs ++ ys) → w.grownBy w' v.ownBlock → (v'.ownBlock = v.ownBlock ∨ v'.ownBlock = some w.heap.size) → wpList Try.prog ops Q rest (a.put o.dst v') w') :
    wpList Try.prog ops Q (o :: rest) a w := by
  obtain ⟨i0, ji, jz0, jz1, jz2⟩ := infoT
  refine wpList_append_own_at w hgd s x _ ho B 36 i0 (.agg #[.int .i64 0, .int .i64 0, .int .i64 0, .int .i64 0]) 4 32 Try.underlying31 ji jz0 jz1 jz2 rfl (by decide) v n (iv zs) hs hown ad m c (iv ys) hx (by rw [List.length_map, hl]) (fun j u hu => ?_) (iv_one _) (by unfold maxLen; omega) (by omega) hbase (fun v' w' h1 h2 _ h4 => h v' w' ?_ h2 h4)
  · rw [List.getElem?_map, Option.map_eq_some_iff] at hu
    obtain ⟨z, hz, rfl⟩ := hu
    rw [List.getElem?_eq_some_iff] at hz
    obtain ⟨hlo, rfl⟩ := hz
    rw [hnews j (by omega), List.getD_eq_getElem?_getD, List.getElem?_eq_getElem hlo]; rfl
  · rw [Tls, iv, List.map_append]; exact h1
theorem cells4 {W : World} {b : Nat} {p q r s : Int} (h : ∀ o, W.cell? ⟨b, o, none⟩ = (#[.int .i64 p, .int .i64 q, .int .i64 r, .int .i64 s] : Array Value)[o]?) : ∀ j, j < 1 * 4 → W.cell? ((⟨b, 0, none⟩ : Addr).add j) = some (.int .i64 (([p, q, r, s] : List Int).getD j 0)) := by
  intro j hj
  rw [add_none, Nat.zero_add, h j]
  match j, hj with
  | 0, _ => rfl
  | 1, _ => rfl
  | 2, _ => rfl
  | 3, _ => rfl
end Go.Proofs.Ytoalihdempcbjaa
