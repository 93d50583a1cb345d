/- What view.taken answers of any tile of a list that is owned. -/
import Derived.Test.YtoalihdempcbjaaDelG
import Derived.Maps.Range
namespace Go.Proofs.Ytoalihdempcbjaa
open Go.RowKit
set_option maxRecDepth 100000
set_option linter.unusedSimpArgs false
set_option linter.unusedVariables false
abbrev iv (zs : List Int) : List Value := zs.map (Value.int .i64)
def Tls (w : World) (B : Nat) (v : Value) (n : Nat) (zs : List Int) : Prop := w.ownsRow B 36 4 v n (iv zs)
theorem iv_one (zs : List Int) : ∀ u ∈ iv zs, u.oneCell' = true := by
  intro u hu; obtain ⟨z, _, rfl⟩ := List.mem_map.1 hu; rfl
def Tl4 (zs : List Int) (k : Nat) : Array Value := #[.int .i64 (zs.getD (k * 4) 0), .int .i64 (zs.getD (k * 4 + 1) 0), .int .i64 (zs.getD (k * 4 + 2) 0), .int .i64 (zs.getD (k * 4 + 3) 0)]
def cutK (zs : List Int) (k : Nat) : List Int := zs.take (k * 4) ++ zs.drop ((k + 1) * 4)
theorem tls_cell {w : World} {B g n cap : Nat} {zs : List Int} (h : Tls w B (.slice (some ⟨g, 0, none⟩) n cap) n zs) : g < w.heap.size ∧ B ≤ g ∧ n ≤ cap ∧ cap ≤ maxLen ∧ zs.length = n * 4 ∧ (∀ o, o < n * 4 → w.cell? ⟨g, o, none⟩ = some (.int .i64 (zs.getD o 0))) ∧ ∀ o, w.frozen? ⟨g, o, none⟩ = false := by
  obtain ⟨hl, h | ⟨g0, cap0, cur, he, hb, hh, h2, h3, h4, h5⟩⟩ := h
  · cases h.1
  · obtain ⟨rfl, rfl⟩ : g = g0 ∧ cap = cap0 := by simpa using he
    have hz : zs.length = n * 4 := by rw [← hl, List.length_map]
    refine ⟨(Array.getElem?_eq_some_iff.1 hh).1, hb, h2, h3, hz, fun o ho => ?_, fun o => by simp [World.frozen?, hh]⟩
    rw [cell_of_row _ _ _ _ _ _ hh, ← Array.getElem?_toList]
    have : (cur.toList.take (n * 4))[o]? = (iv zs)[o]? := by rw [h5]
    rw [List.getElem?_take, if_pos ho] at this
    rw [this, List.getElem?_map, List.getD_eq_getElem?_getD, List.getElem?_eq_getElem (by omega)]
    rfl
theorem gb_set (w : World) (b i : Nat) (v : Value) : w.grownBy (w.setCell ⟨b, i, none⟩ v) (some b) :=
  ⟨rfl, rfl, rfl, by rw [World.size_setCell]; exact Nat.le_refl _, fun k _ hk => Below.heap_setCell _ _ _ k (fun e => hk (by rw [e]))⟩
theorem gb_refl (w : World) (r : Option Nat) : w.grownBy w r := ⟨rfl, rfl, rfl, Nat.le_refl _, fun _ _ _ => rfl⟩
theorem gb_drew (w : World) (r : Option Nat) : w.grownBy w.drew r := ⟨rfl, rfl, rfl, Nat.le_refl _, fun _ _ _ => rfl⟩
theorem gb_set4 (w : World) (b : Nat) {i j k l : Nat} {u v x y : Value} : w.grownBy ((((w.setCell ⟨b, i, none⟩ u).setCell ⟨b, j, none⟩ v).setCell ⟨b, k, none⟩ x).setCell ⟨b, l, none⟩ y) (some b) :=
  have h := fun (r : Option Nat) (e : r = some b) => e
  (((gb_set w b i u).andThen (gb_set _ b j v) (fun j e => .inr e)).andThen (gb_set _ b k x) (fun j e => .inr e)).andThen (gb_set _ b l y) (fun j e => .inr e)
set_option maxHeartbeats 4000000 in
theorem taken_row {B n m k g cap : Nat} {zs : List Int} (hk : k ≤ m) (hnm : n = m + 1) (w : World) (hown : Tls w B (.slice (some ⟨g, 0, none⟩) n cap) n zs) (hB : B ≤ w.heap.size) :
    Calls Try.prog 32 #[.slice (some ⟨g, 0, none⟩) n cap, .int .i64 (k : Int)] w fun e w' => e = .returned (.tuple #[.agg (Tl4 zs k), .slice (some ⟨g, 0, none⟩) m cap]) ∧ Tls w' B (.slice (some ⟨g, 0, none⟩) m cap) m (cutK zs k) ∧ w.grownBy w' (some g) := by
  obtain ⟨hlt, hBg, hnc, hcm, hz, hc, hf⟩ := tls_cell hown
  have c0 := hc (k * 4) (by omega)
  have c1 := hc (k * 4 + 1) (by omega)
  have c2 := hc (k * 4 + 2) (by omega)
  have c3 := hc (k * 4 + 3) (by omega)
  have ng : g ≠ w.heap.size + 1 := by omega
  have ng0 : g ≠ w.heap.size := by omega
  have a0 : (0 : Int) ≤ (k : Int) := by omega
  have a1 : (k : Int) < (n : Int) := by omega
  have a2 : (k : Int).toNat = k := by omega
  have nw2 : IntKind.i64.wrap ((k : Int) + 1) = (k : Int) + 1 := IntWalk.i64_in _ (by simp only [maxLen] at hcm; omega)
  have HO := Lib.hid hown
  have HN := Lib.hid hnm
  clear hc hf hown hnm
  rw [Tl4]
  generalize hX0 : zs.getD (k * 4) 0 = X0 at c0 ⊢
  generalize hX1 : zs.getD (k * 4 + 1) 0 = X1 at c1 ⊢
  generalize hX2 : zs.getD (k * 4 + 2) 0 = X2 at c2 ⊢
  generalize hX3 : zs.getD (k * 4 + 3) 0 = X3 at c3 ⊢
  go_enter Try.func32, Try.ntmps32
  go_wp2_with fail
  have HW : Hid (((w.alloc (.cells #[.int .i64 0, .int .i64 0, .int .i64 0, .int .i64 0] 36)).alloc (.cells (#[.int .i64 X0, .int .i64 X1, .int .i64 X2, .int .i64 X3] : Array Value) 36)).drew.ownsRow B 36 4 (.slice (some ⟨g, 0, none⟩) n cap) n (iv zs)) := World.ownsRow.alloc (World.ownsRow.alloc HO.out _) _
  have A1 : ∀ o, ((w.alloc (.cells #[.int .i64 0, .int .i64 0, .int .i64 0, .int .i64 0] 36)).alloc (.cells (#[.int .i64 X0, .int .i64 X1, .int .i64 X2, .int .i64 X3] : Array Value) 36)).cell? ⟨w.heap.size + 1, o, none⟩ = (#[.int .i64 X0, .int .i64 X1, .int .i64 X2, .int .i64 X3] : Array Value)[o]? := new_at (sz1 rfl) _ _
  have ZZ : ∀ o, ((w.alloc (.cells #[.int .i64 0, .int .i64 0, .int .i64 0, .int .i64 0] 36)).alloc (.cells (#[.int .i64 X0, .int .i64 X1, .int .i64 X2, .int .i64 X3] : Array Value) 36)).drew.cell? ⟨w.heap.size, o, none⟩ = (#[.int .i64 0, .int .i64 0, .int .i64 0, .int .i64 0] : Array Value)[o]? := blk_alloc (by simp) _ (new_at rfl _ _)
  have FZ : ∀ o, ((w.alloc (.cells #[.int .i64 0, .int .i64 0, .int .i64 0, .int .i64 0] 36)).alloc (.cells (#[.int .i64 X0, .int .i64 X1, .int .i64 X2, .int .i64 X3] : Array Value) 36)).drew.frozen? ⟨w.heap.size, o, none⟩ = false := fro_more (lt_new rfl) _ (fro_new rfl _ _)
  have LZ : w.heap.size < ((w.alloc (.cells #[.int .i64 0, .int .i64 0, .int .i64 0, .int .i64 0] 36)).alloc (.cells (#[.int .i64 X0, .int .i64 X1, .int .i64 X2, .int .i64 X3] : Array Value) 36)).drew.heap.size := lt_here (lt_new rfl)
  refine wp_region_held_drew (S := (fun w' => ∀ o, w'.cell? ⟨w.heap.size + 1, o, none⟩ = (#[.int .i64 X0, .int .i64 X1, .int .i64 X2, .int .i64 X3] : Array Value)[o]?)) (by kernel_rfl) ?_ (fun hHeld => ?_)
  · (try dsimp only); (exact A1)
  refine wpAnyH_take (i := 0) (oi := { dst := some 11, op := Go.Op.load 36 (Go.Operand.tmp 6), type := 36, pos := "view.go:25", after := #[], guard := none }) (v := ?_) rfl (by kernel_rfl) (by kernel_rfl) (by kernel_rfl) (fun _ _ _ h => h) (Or.inl ⟨by rfl, ?_⟩) (by assumption) ?_
  rotate_left
  · intro w hSw; (try dsimp only at hSw); go_simp; (try with_reducible rfl)
  try simp only [Act.put, List.setIfInBounds_toArray, List.set_cons_zero, List.set_cons_succ]
  refine wpAnyH_take (i := 1) (oi := { dst := some 12, op := Go.Op.move (Go.Operand.tmp 0), type := 31, pos := "view.go:25", after := #[], guard := none }) (v := ?_) rfl (by kernel_rfl) (by kernel_rfl) (by kernel_rfl) (fun _ _ _ h => h) (Or.inl ⟨by rfl, ?_⟩) (by assumption) ?_
  rotate_left
  · intro w hSw; (try dsimp only at hSw); go_simp; (try with_reducible rfl)
  try simp only [Act.put, List.setIfInBounds_toArray, List.set_cons_zero, List.set_cons_succ]
  refine wpAnyH_take (i := 2) (oi := { dst := some 13, op := Go.Op.move (Go.Operand.tmp 1), type := 3, pos := "view.go:25", after := #[], guard := none }) (v := ?_) rfl (by kernel_rfl) (by kernel_rfl) (by kernel_rfl) (fun _ _ _ h => h) (Or.inl ⟨by rfl, ?_⟩) (by assumption) ?_
  rotate_left
  · intro w hSw; (try dsimp only at hSw); go_simp; (try with_reducible rfl)
  try simp only [Act.put, List.setIfInBounds_toArray, List.set_cons_zero, List.set_cons_succ]
  refine wpAnyH_take (i := 3) (oi := { dst := some 14, op := Go.Op.move (Go.Operand.tmp 1), type := 3, pos := "view.go:25", after := #[], guard := none }) (v := ?_) rfl (by kernel_rfl) (by kernel_rfl) (by kernel_rfl) (fun _ _ _ h => h) (Or.inl ⟨by rfl, ?_⟩) (by assumption) ?_
  rotate_left
  · intro w hSw; (try dsimp only at hSw); go_simp; (try with_reducible rfl)
  try simp only [Act.put, List.setIfInBounds_toArray, List.set_cons_zero, List.set_cons_succ]
  refine wpAnyH_take (i := 4) (oi := { dst := some 15, op := Go.Op.binOp Go.BinOp.add 3 (Go.Operand.tmp 14) (Go.Operand.const (Go.Value.int Go.IntKind.i64 1)) 3, type := 3, pos := "view.go:25", after := #[{ on := 3, ground := Go.Ground.data }], guard := none }) (v := ?_) rfl (by kernel_rfl) (by kernel_rfl) (by kernel_rfl) (fun _ _ _ h => h) (Or.inl ⟨by rfl, ?_⟩) (by assumption) ?_
  rotate_left
  · intro w hSw; (try dsimp only at hSw); go_simp; (try with_reducible rfl)
  try simp only [Act.put, List.setIfInBounds_toArray, List.set_cons_zero, List.set_cons_succ]
  refine wpAnyH_ready (rs := [5]) (by kernel_rfl) (by simp) ?_
  refine AllReadyH.cons (o := { dst := some 16, op := Go.Op.call { callee := Go.Callee.value (Go.Operand.func 43), args := #[Go.Operand.tmp 12, Go.Operand.tmp 13, Go.Operand.tmp 15], argTypes := #[31, 3, 3] }, type := 31, pos := "view.go:25", after := #[{ on := 1, ground := Go.Ground.data }, { on := 2, ground := Go.Ground.data }, { on := 4, ground := Go.Ground.data }], guard := none }) rfl (fun K hK => ?_) AllReadyH.nil
  go_simp
  (go_at_call 43; ((with_reducible refine (del_row hk HN.out _ HW.out (iv_one _)).mono ?_); rintro e v1 ⟨rfl, hO, hG, hS⟩; have HG := Lib.hid hG; have HO1 := Lib.hid hO; have ZD : ∀ o, v1.cell? ⟨w.heap.size, o, none⟩ = (#[.int .i64 0, .int .i64 0, .int .i64 0, .int .i64 0] : Array Value)[o]? := (fun o => (World.grownBy.cell_far hG ⟨w.heap.size, o, none⟩ LZ (by simp [Ne.symm ng0])).trans (ZZ o)); have FD : ∀ o, v1.frozen? ⟨w.heap.size, o, none⟩ = false := (fun o => (World.grownBy.frozen_far hG ⟨w.heap.size, o, none⟩ LZ (by simp [Ne.symm ng0])).trans (FZ o)); have LD : w.heap.size < v1.heap.size := Nat.lt_of_lt_of_le LZ hG.size; have HS := Lib.hid hS; clear hO hG hS))
  refine hK.out _ _ ?_ (fun hHeld5 => ?_)
  · (try dsimp only); (exact (fun o => (World.grownBy.cell_far HG.out ⟨w.heap.size + 1, o, none⟩ (by show w.heap.size + 1 < ((w.alloc _).alloc _).heap.size; rw [World.size_alloc, World.size_alloc]; omega) (by simp [Ne.symm ng])).trans (hHeld o)))
  clear hK K hHeld
  try simp only [Act.put, List.setIfInBounds_toArray, List.set_cons_zero, List.set_cons_succ]
  refine wpAnyH_ready (rs := [6]) (by kernel_rfl) (by simp) ?_
  refine AllReadyH.cons (o := { dst := none, op := Go.Op.store 36 (Go.Operand.tmp 4) (Go.Operand.tmp 11), type := 0, pos := "view.go:25", after := #[{ on := 0, ground := Go.Ground.data }, { on := 5, ground := Go.Ground.chain }, { on := 0, ground := Go.Ground.phase }, { on := 1, ground := Go.Ground.textOnly Go.Departure.lateStores }, { on := 2, ground := Go.Ground.textOnly Go.Departure.lateStores }, { on := 3, ground := Go.Ground.textOnly Go.Departure.lateStores }, { on := 4, ground := Go.Ground.textOnly Go.Departure.lateStores }, { on := 5, ground := Go.Ground.textOnly Go.Departure.lateStoresUnsure }], guard := none }) rfl (fun K hK => ?_) AllReadyH.nil
  go_simp
  refine hK.out _ _ ?_ (fun hHeld6 => ?_)
  · (try dsimp only); (exact st4_far (show w.heap.size ≠ w.heap.size + 1 by omega) hHeld5)
  clear hK K hHeld5
  try simp only [Act.put, List.setIfInBounds_toArray, List.set_cons_zero, List.set_cons_succ]
  refine wpAnyH_take (i := 7) (oi := { dst := some 5, op := Go.Op.assign (Go.Operand.tmp 16), type := 31, pos := "view.go:25", after := #[{ on := 5, ground := Go.Ground.data }, { on := 6, ground := Go.Ground.chain }, { on := 0, ground := Go.Ground.phase }, { on := 1, ground := Go.Ground.phase }, { on := 2, ground := Go.Ground.phase }, { on := 3, ground := Go.Ground.phase }, { on := 4, ground := Go.Ground.phase }, { on := 5, ground := Go.Ground.phase }, { on := 6, ground := Go.Ground.phase }], guard := none }) (v := ?_) rfl (by kernel_rfl) (by kernel_rfl) (by kernel_rfl) (fun _ _ _ h => h) (Or.inl ⟨by rfl, ?_⟩) (by assumption) ?_
  rotate_left
  · intro w hSw; (try dsimp only at hSw); go_simp; (try with_reducible rfl)
  try simp only [Act.put, List.setIfInBounds_toArray, List.set_cons_zero, List.set_cons_succ]
  refine wpAnyH_done (by kernel_rfl) ?_ _
  have K1 := hHeld6
  clear hHeld6
  go_wp2_with fail
  have K := st_blk (st_blk (st_blk (st_blk ZD 0 (.int .i64 X0) (by simp)) 1 (.int .i64 X1) (by simp)) 2 (.int .i64 X2) (by simp)) 3 (.int .i64 X3) (by simp)
  have k0 := (K 0).trans (show _ = some (.int .i64 X0) from rfl)
  have k1 := (K 1).trans (show _ = some (.int .i64 X1) from rfl)
  have k2 := (K 2).trans (show _ = some (.int .i64 X2) from rfl)
  have k3 := (K 3).trans (show _ = some (.int .i64 X3) from rfl)
  clear K K1
  refine bodyPost_ret (v := .tuple #[.agg #[.int .i64 X0, .int .i64 X1, .int .i64 X2, .int .i64 X3], .slice (some ⟨g, 0, none⟩) m cap]) (by simp [results, Try.results32, go_sem, k0, k1, k2, k3]) rfl ?_
  refine ⟨rfl, ?_, ?_⟩
  · rw [Tls, cutK, iv, List.map_append, List.map_take, List.map_drop]
    exact World.ownsRow.kept HO1.out (gb_set4 v1 w.heap.size) (.inr (by simp [Value.ownBlock, ng0]))
  · refine World.grownBy.andThen (World.grownBy.andThen (World.grownBy.andThen (World.grownBy.andThen (World.grownBy_alloc w _ (some g)) (World.grownBy_alloc _ _ (some g)) (fun j e => .inr e)) (gb_drew _ (some g)) (fun j e => .inr e)) (show World.grownBy _ v1 (some g) from HG.out) (fun j e => .inr e)) (gb_set4 v1 w.heap.size) (fun j e => .inl (by cases e; exact Nat.le_refl _))
theorem taken_row4 {B n m k g cap : Nat} {zs : List Int} (X0 X1 X2 X3 : Int) (hX : [zs.getD (k * 4) 0, zs.getD (k * 4 + 1) 0, zs.getD (k * 4 + 2) 0, zs.getD (k * 4 + 3) 0] = [X0, X1, X2, X3]) (hk : k ≤ m) (hnm : n = m + 1) (w : World) (hown : Tls w B (.slice (some ⟨g, 0, none⟩) n cap) n zs) (hB : B ≤ w.heap.size) :
    Calls Try.prog 32 #[.slice (some ⟨g, 0, none⟩) n cap, .int .i64 (k : Int)] w fun e w' => e = .returned (.tuple #[.agg #[.int .i64 X0, .int .i64 X1, .int .i64 X2, .int .i64 X3], .slice (some ⟨g, 0, none⟩) m cap]) ∧ Tls w' B (.slice (some ⟨g, 0, none⟩) m cap) m (cutK zs k) ∧ w.grownBy w' (some g) := by
  have h := taken_row hk hnm w hown hB
  rw [Tl4] at h
  simp only [List.cons.injEq, and_true] at hX
  rw [hX.1, hX.2.1, hX.2.2.1, hX.2.2.2] at h
  exact h
theorem tls_alloc {w : World} {B n : Nat} {v : Value} {zs : List Int} (h : Tls w B v n zs) (o : Obj) : Tls (w.alloc o) B v n zs := World.ownsRow.alloc h o
end Go.Proofs.Ytoalihdempcbjaa
