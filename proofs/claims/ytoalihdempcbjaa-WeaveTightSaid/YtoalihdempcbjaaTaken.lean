/- What view.taken answers of two tiles, the second taken out. -/
import Derived.Test.YtoalihdempcbjaaDel
import Derived.Test.YtoalihdempcbjaaSet
import Derived.Deep.AppendLies
namespace Go.Proofs.Ytoalihdempcbjaa
open Go.RowKit
set_option maxRecDepth 100000
set_option linter.unusedSimpArgs false
set_option linter.unusedVariables false
theorem tile_own {w : World} {B n : Nat} {v : Value} {xs : List Value} (h : w.ownsRow B 36 4 v n xs) (hn : 0 < n) : ∃ g cap, v = .slice (some ⟨g, 0, none⟩) n cap ∧ B ≤ g ∧ g < w.heap.size ∧ n ≤ cap ∧ cap ≤ maxLen ∧ (∀ o, o < n * 4 → w.cell? ⟨g, o, none⟩ = xs[o]?) ∧ (∀ o, w.frozen? ⟨g, o, none⟩ = false) := by
  obtain ⟨hl, h | ⟨g, cap, cur, rfl, hb, hh, h1, h2, h3, h4⟩⟩ := h
  · exact absurd h.2 (by omega)
  · have hg : g < w.heap.size := by
      rcases Nat.lt_or_ge g w.heap.size with h | h
      · exact h
      · rw [Array.getElem?_eq_none h] at hh; cases hh
    refine ⟨g, cap, rfl, hb, hg, h1, h2, fun o ho => ?_, fun o => by simp [World.frozen?, hh]⟩
    rw [cell_of_row _ _ _ _ _ _ hh, ← h4, List.getElem?_take, if_pos ho]
    simp
theorem st4_far {W : World} {b b' : Nat} {cs : Array Value} (hn : b' ≠ b) (h : ∀ o, W.cell? ⟨b, o, none⟩ = cs[o]?) {i j k l : Nat} {u v x y : Value} :
    ∀ o, ((((W.setCell ⟨b', i, none⟩ u).setCell ⟨b', j, none⟩ v).setCell ⟨b', k, none⟩ x).setCell ⟨b', l, none⟩ y).cell? ⟨b, o, none⟩ = cs[o]? := st_far hn (st_far hn (st_far hn (st_far hn h)))
theorem set4_far {W : World} {b g : Nat} {cs : Array Value} {u v x y : Value} (hn : g ≠ b) (h : ∀ o, W.cell? ⟨b, o, none⟩ = cs[o]?) : ∀ o, (W.setCells g 4 [u, v, x, y]).cell? ⟨b, o, none⟩ = cs[o]? := st4_far hn h
theorem set4_fro {W : World} {b g : Nat} {u v x y : Value} (h : ∀ o, W.frozen? ⟨b, o, none⟩ = false) : ∀ o, (W.setCells g 4 [u, v, x, y]).frozen? ⟨b, o, none⟩ = false := fun o => by simp only [World.setCells]; simp [h]
theorem set4_lt {W : World} {b g : Nat} {u v x y : Value} (h : b < W.heap.size) : b < (W.setCells g 4 [u, v, x, y]).heap.size := by simp only [World.setCells]; simpa using h
theorem set4_low {W : World} {g o : Nat} {u v x y z : Value} (ho : o < 4) (h : W.cell? ⟨g, o, none⟩ = some z) : (W.setCells g 4 [u, v, x, y]).cell? ⟨g, o, none⟩ = some z := by
  rw [World.cell?_setCells_out _ _ _ _ _ (fun _ _ => .inl ho)]; exact h
theorem st4_cell {W : World} {b b' o : Nat} {z : Value} (hn : b' ≠ b) (h : W.cell? ⟨b, o, none⟩ = some z) {i j k l : Nat} {u v x y : Value} :
    ((((W.setCell ⟨b', i, none⟩ u).setCell ⟨b', j, none⟩ v).setCell ⟨b', k, none⟩ x).setCell ⟨b', l, none⟩ y).cell? ⟨b, o, none⟩ = some z := by
  rw [World.cell?_setCell_other _ _ _ _ (by simp [hn]), World.cell?_setCell_other _ _ _ _ (by simp [hn]), World.cell?_setCell_other _ _ _ _ (by simp [hn]), World.cell?_setCell_other _ _ _ _ (by simp [hn])]; exact h
def Cleared (g : Nat) (w w' : World) : Prop := (∀ o, o < 4 → ∀ z, w.cell? ⟨g, o, none⟩ = some z → w'.cell? ⟨g, o, none⟩ = some z) ∧ (∀ b (cs : Array Value), g ≠ b → (∀ o, w.cell? ⟨b, o, none⟩ = cs[o]?) → ∀ o, w'.cell? ⟨b, o, none⟩ = cs[o]?) ∧ (∀ b, (∀ o, w.frozen? ⟨b, o, none⟩ = false) → ∀ o, w'.frozen? ⟨b, o, none⟩ = false) ∧ w'.heap.size = w.heap.size ∧ ∀ B W0, B ≤ g → Below B W0 w → Below B W0 w'
theorem cleared_set (g : Nat) (w : World) (u v x y : Value) : Cleared g w (w.drew.setCells g 4 [u, v, x, y]) :=
  ⟨fun o ho z h => set4_low ho h, fun b cs hn h => set4_far hn h, fun b h => set4_fro h, by simp only [World.setCells]; simp, fun B W0 hB h => by simp only [World.setCells]; exact Below.setCell (Below.setCell (Below.setCell (Below.setCell h.drew hB _) hB _) hB _) hB _⟩
theorem del2' (g cap : Nat) (h2 : 2 ≤ cap) (hm : cap ≤ maxLen) (X : Nat → Int) (w : World) (hlt : g < w.heap.size) (hc : ∀ o, o < 8 → w.cell? ⟨g, o, none⟩ = some (.int .i64 (X o))) (hf : ∀ o, w.frozen? ⟨g, o, none⟩ = false) :
    Calls Try.prog 43 #[.slice (some ⟨g, 0, none⟩) 2 cap, .int .i64 1, .int .i64 2] w fun e w' => e = .returned (.slice (some ⟨g, 0, none⟩) 1 cap) ∧ Cleared g w w' :=
  (del2 g cap h2 hm X w hlt hc hf).mono fun e w' ⟨he, hw⟩ => ⟨he, by rw [hw]; exact cleared_set g w _ _ _ _⟩
set_option maxHeartbeats 4000000 in
theorem taken2 (g cap : Nat) (h2 : 2 ≤ cap) (hm : cap ≤ maxLen) (X : Nat → Int) (w : World) (hlt : g < w.heap.size) (hc : ∀ o, o < 8 → w.cell? ⟨g, o, none⟩ = some (.int .i64 (X o))) (hf : ∀ o, w.frozen? ⟨g, o, none⟩ = false) :
    Calls Try.prog 32 #[.slice (some ⟨g, 0, none⟩) 2 cap, .int .i64 1] w fun e w' => e = .returned (.tuple #[.agg (#[.int .i64 (X 4), .int .i64 (X 5), .int .i64 (X 6), .int .i64 (X 7)] : Array Value), .slice (some ⟨g, 0, none⟩) 1 cap]) ∧ (∀ o, o < 4 → w'.cell? ⟨g, o, none⟩ = some (.int .i64 (X o))) ∧ g < w'.heap.size ∧ w.heap.size ≤ w'.heap.size ∧ (∀ B W0, B ≤ g → B ≤ w.heap.size → Below B W0 w → Below B W0 w') ∧ (∀ b (cs : Array Value), g ≠ b → b < w.heap.size → (∀ o, w.cell? ⟨b, o, none⟩ = cs[o]?) → ∀ o, w'.cell? ⟨b, o, none⟩ = cs[o]?) ∧ (∀ b, b < w.heap.size → (∀ o, w.frozen? ⟨b, o, none⟩ = false) → ∀ o, w'.frozen? ⟨b, o, none⟩ = false) := by
  have c0 := hc 4 (by omega)
  have c1 := hc 5 (by omega)
  have c2 := hc 6 (by omega)
  have c3 := hc 7 (by omega)
  have HC := Lib.hid hc
  have HF := Lib.hid hf
  have ng : g ≠ w.heap.size + 1 := by omega
  have ng0 : g ≠ w.heap.size := by omega
  have nw2 : IntKind.i64.wrap 2 = 2 := by decide
  clear hc hf
  go_enter Try.func32, Try.ntmps32
  go_wp2_with fail
  have hlt2 : g < ((w.alloc (.cells #[.int .i64 0, .int .i64 0, .int .i64 0, .int .i64 0] 36)).alloc (.cells (#[.int .i64 (X 4), .int .i64 (X 5), .int .i64 (X 6), .int .i64 (X 7)] : Array Value) 36)).drew.heap.size := by show g < ((w.alloc _).alloc _).heap.size; rw [World.size_alloc, World.size_alloc]; omega
  have HC2 : Hid (∀ o, o < 8 → ((w.alloc (.cells #[.int .i64 0, .int .i64 0, .int .i64 0, .int .i64 0] 36)).alloc (.cells (#[.int .i64 (X 4), .int .i64 (X 5), .int .i64 (X 6), .int .i64 (X 7)] : Array Value) 36)).drew.cell? ⟨g, o, none⟩ = some (.int .i64 (X o))) := fun o ho => cell_alloc _ (cell_alloc _ (HC.out o ho))
  have HF2 : Hid (∀ o, ((w.alloc (.cells #[.int .i64 0, .int .i64 0, .int .i64 0, .int .i64 0] 36)).alloc (.cells (#[.int .i64 (X 4), .int .i64 (X 5), .int .i64 (X 6), .int .i64 (X 7)] : Array Value) 36)).drew.frozen? ⟨g, o, none⟩ = false) := fro_more (by rw [World.size_alloc]; omega) _ (fro_more hlt _ HF.out)
  have A1 : ∀ o, ((w.alloc (.cells #[.int .i64 0, .int .i64 0, .int .i64 0, .int .i64 0] 36)).alloc (.cells (#[.int .i64 (X 4), .int .i64 (X 5), .int .i64 (X 6), .int .i64 (X 7)] : Array Value) 36)).cell? ⟨w.heap.size + 1, o, none⟩ = (#[.int .i64 (X 4), .int .i64 (X 5), .int .i64 (X 6), .int .i64 (X 7)] : Array Value)[o]? := new_at (sz1 rfl) _ _
  have ZZ : ∀ o, ((w.alloc (.cells #[.int .i64 0, .int .i64 0, .int .i64 0, .int .i64 0] 36)).alloc (.cells (#[.int .i64 (X 4), .int .i64 (X 5), .int .i64 (X 6), .int .i64 (X 7)] : Array Value) 36)).drew.cell? ⟨w.heap.size, o, none⟩ = (#[.int .i64 0, .int .i64 0, .int .i64 0, .int .i64 0] : Array Value)[o]? := blk_alloc (by simp) _ (new_at rfl _ _)
  have FZ : ∀ o, ((w.alloc (.cells #[.int .i64 0, .int .i64 0, .int .i64 0, .int .i64 0] 36)).alloc (.cells (#[.int .i64 (X 4), .int .i64 (X 5), .int .i64 (X 6), .int .i64 (X 7)] : Array Value) 36)).drew.frozen? ⟨w.heap.size, o, none⟩ = false := fro_more (lt_new rfl) _ (fro_new rfl _ _)
  have LZ : w.heap.size < ((w.alloc (.cells #[.int .i64 0, .int .i64 0, .int .i64 0, .int .i64 0] 36)).alloc (.cells (#[.int .i64 (X 4), .int .i64 (X 5), .int .i64 (X 6), .int .i64 (X 7)] : Array Value) 36)).drew.heap.size := lt_here (lt_new rfl)
  refine wp_region_held_drew (S := (fun w' => ∀ o, w'.cell? ⟨w.heap.size + 1, o, none⟩ = (#[.int .i64 (X 4), .int .i64 (X 5), .int .i64 (X 6), .int .i64 (X 7)] : Array Value)[o]?)) (by kernel_rfl) ?_ (fun hHeld => ?_)
  · (try dsimp only); (exact A1)
  refine wpAnyH_take (i := 0) (oi := { dst := some 11, op := Go.Op.load 36 (Go.Operand.tmp 6), type := 36, pos := "view.go:25", after := #[], guard := none }) (v := ?_) rfl (by kernel_rfl) (by kernel_rfl) (by kernel_rfl) (fun _ _ _ h => h) (Or.inl ⟨by rfl, ?_⟩) (by assumption) ?_
  rotate_left
  · intro w hSw; (try dsimp only at hSw); go_simp; (try with_reducible rfl)
  try simp only [Act.put, List.setIfInBounds_toArray, List.set_cons_zero, List.set_cons_succ]
  refine wpAnyH_take (i := 1) (oi := { dst := some 12, op := Go.Op.move (Go.Operand.tmp 0), type := 31, pos := "view.go:25", after := #[], guard := none }) (v := ?_) rfl (by kernel_rfl) (by kernel_rfl) (by kernel_rfl) (fun _ _ _ h => h) (Or.inl ⟨by rfl, ?_⟩) (by assumption) ?_
  rotate_left
  · intro w hSw; (try dsimp only at hSw); go_simp; (try with_reducible rfl)
  try simp only [Act.put, List.setIfInBounds_toArray, List.set_cons_zero, List.set_cons_succ]
  refine wpAnyH_take (i := 2) (oi := { dst := some 13, op := Go.Op.move (Go.Operand.tmp 1), type := 3, pos := "view.go:25", after := #[], guard := none }) (v := ?_) rfl (by kernel_rfl) (by kernel_rfl) (by kernel_rfl) (fun _ _ _ h => h) (Or.inl ⟨by rfl, ?_⟩) (by assumption) ?_
  rotate_left
  · intro w hSw; (try dsimp only at hSw); go_simp; (try with_reducible rfl)
  try simp only [Act.put, List.setIfInBounds_toArray, List.set_cons_zero, List.set_cons_succ]
  refine wpAnyH_take (i := 3) (oi := { dst := some 14, op := Go.Op.move (Go.Operand.tmp 1), type := 3, pos := "view.go:25", after := #[], guard := none }) (v := ?_) rfl (by kernel_rfl) (by kernel_rfl) (by kernel_rfl) (fun _ _ _ h => h) (Or.inl ⟨by rfl, ?_⟩) (by assumption) ?_
  rotate_left
  · intro w hSw; (try dsimp only at hSw); go_simp; (try with_reducible rfl)
  try simp only [Act.put, List.setIfInBounds_toArray, List.set_cons_zero, List.set_cons_succ]
  refine wpAnyH_take (i := 4) (oi := { dst := some 15, op := Go.Op.binOp Go.BinOp.add 3 (Go.Operand.tmp 14) (Go.Operand.const (Go.Value.int Go.IntKind.i64 1)) 3, type := 3, pos := "view.go:25", after := #[{ on := 3, ground := Go.Ground.data }], guard := none }) (v := ?_) rfl (by kernel_rfl) (by kernel_rfl) (by kernel_rfl) (fun _ _ _ h => h) (Or.inl ⟨by rfl, ?_⟩) (by assumption) ?_
  rotate_left
  · intro w hSw; (try dsimp only at hSw); go_simp; (try with_reducible rfl)
  try simp only [Act.put, List.setIfInBounds_toArray, List.set_cons_zero, List.set_cons_succ]
  refine wpAnyH_ready (rs := [5]) (by kernel_rfl) (by simp) ?_
  refine AllReadyH.cons (o := { dst := some 16, op := Go.Op.call { callee := Go.Callee.value (Go.Operand.func 43), args := #[Go.Operand.tmp 12, Go.Operand.tmp 13, Go.Operand.tmp 15], argTypes := #[31, 3, 3] }, type := 31, pos := "view.go:25", after := #[{ on := 1, ground := Go.Ground.data }, { on := 2, ground := Go.Ground.data }, { on := 4, ground := Go.Ground.data }], guard := none }) rfl (fun K hK => ?_) AllReadyH.nil
  go_simp
  (go_at_call 43; ((with_reducible refine (del2' g cap h2 hm X _ hlt2 HC2.out HF2.out).mono ?_); rintro e v1 ⟨rfl, hCl⟩; have HCl := Lib.hid hCl; have ZD := hCl.2.1 _ _ ng0 ZZ; have FD := hCl.2.2.1 _ FZ; have LD : w.heap.size < v1.heap.size := (by rw [hCl.2.2.2.1]; exact LZ); clear hCl))
  refine hK.out _ _ ?_ (fun hHeld5 => ?_)
  · (try dsimp only); (exact HCl.out.2.1 _ _ ng hHeld)
  clear hK K hHeld
  try simp only [Act.put, List.setIfInBounds_toArray, List.set_cons_zero, List.set_cons_succ]
  refine wpAnyH_ready (rs := [6]) (by kernel_rfl) (by simp) ?_
  refine AllReadyH.cons (o := { dst := none, op := Go.Op.store 36 (Go.Operand.tmp 4) (Go.Operand.tmp 11), type := 0, pos := "view.go:25", after := #[{ on := 0, ground := Go.Ground.data }, { on := 5, ground := Go.Ground.chain }, { on := 0, ground := Go.Ground.phase }, { on := 1, ground := Go.Ground.textOnly Go.Departure.lateStores }, { on := 2, ground := Go.Ground.textOnly Go.Departure.lateStores }, { on := 3, ground := Go.Ground.textOnly Go.Departure.lateStores }, { on := 4, ground := Go.Ground.textOnly Go.Departure.lateStores }, { on := 5, ground := Go.Ground.textOnly Go.Departure.lateStoresUnsure }], guard := none }) rfl (fun K hK => ?_) AllReadyH.nil
  go_simp
  refine hK.out _ _ ?_ (fun hHeld6 => ?_)
  · (try dsimp only); (exact st4_far (show w.heap.size ≠ w.heap.size + 1 by omega) hHeld5)
  clear hK K hHeld5
  try simp only [Act.put, List.setIfInBounds_toArray, List.set_cons_zero, List.set_cons_succ]
  refine wpAnyH_take (i := 7) (oi := { dst := some 5, op := Go.Op.assign (Go.Operand.tmp 16), type := 31, pos := "view.go:25", after := #[{ on := 5, ground := Go.Ground.data }, { on := 6, ground := Go.Ground.chain }, { on := 0, ground := Go.Ground.phase }, { on := 1, ground := Go.Ground.phase }, { on := 2, ground := Go.Ground.phase }, { on := 3, ground := Go.Ground.phase }, { on := 4, ground := Go.Ground.phase }, { on := 5, ground := Go.Ground.phase }, { on := 6, ground := Go.Ground.phase }], guard := none }) (v := ?_) rfl (by kernel_rfl) (by kernel_rfl) (by kernel_rfl) (fun _ _ _ h => h) (Or.inl ⟨by rfl, ?_⟩) (by assumption) ?_
  rotate_left
  · intro w hSw; (try dsimp only at hSw); go_simp; (try with_reducible rfl)
  try simp only [Act.put, List.setIfInBounds_toArray, List.set_cons_zero, List.set_cons_succ]
  refine wpAnyH_done (by kernel_rfl) ?_ _
  have K1 := hHeld6
  clear hHeld6
  go_wp2_with fail
  have K := st_blk (st_blk (st_blk (st_blk ZD 0 (.int .i64 (X 4)) (by simp)) 1 (.int .i64 (X 5)) (by simp)) 2 (.int .i64 (X 6)) (by simp)) 3 (.int .i64 (X 7)) (by simp)
  have k0 := (K 0).trans (show _ = some (.int .i64 (X 4)) from rfl)
  have k1 := (K 1).trans (show _ = some (.int .i64 (X 5)) from rfl)
  have k2 := (K 2).trans (show _ = some (.int .i64 (X 6)) from rfl)
  have k3 := (K 3).trans (show _ = some (.int .i64 (X 7)) from rfl)
  clear K K1
  refine bodyPost_ret (v := .tuple #[.agg #[.int .i64 (X 4), .int .i64 (X 5), .int .i64 (X 6), .int .i64 (X 7)], .slice (some ⟨g, 0, none⟩) 1 cap]) (by simp [results, Try.results32, go_sem, k0, k1, k2, k3]) rfl ?_
  have hs := HCl.out.2.2.2.1
  refine ⟨rfl, fun o ho => st4_cell (Ne.symm ng0) (HCl.out.1 o ho _ (HC2.out o (by omega))), ?_, ?_, fun B W0 hB hB' h => ?_, fun b cs hn hb h => ?_, fun b hb h => ?_⟩
  · simp only [World.size_setCell]; rw [hs]; exact hlt2
  · simp only [World.size_setCell]; omega
  · exact Below.setCell (Below.setCell (Below.setCell (Below.setCell (HCl.out.2.2.2.2 B W0 hB ((h.alloc hB' _).alloc (by rw [World.size_alloc]; omega) _).drew) hB' _) hB' _) hB' _) hB' _
  · exact st4_far (by omega) (HCl.out.2.1 b cs hn (fun o => ((((Below.refl w.heap.size w).alloc (Nat.le_refl _) _).alloc (by rw [World.size_alloc]; omega) _).cell (p := ⟨b, o, none⟩) hb).trans (h o)))
  · have f := HCl.out.2.2.1 b (fun o => ((((Below.refl w.heap.size w).alloc (Nat.le_refl _) _).alloc (by rw [World.size_alloc]; omega) _).frozen (p := ⟨b, o, none⟩) hb).trans (h o))
    exact fun o => by simp [f]
theorem taken54 (g cap : Nat) (h2 : 2 ≤ cap) (hm : cap ≤ maxLen) (w : World) (hlt : g < w.heap.size) (hc : ∀ o, o < 8 → w.cell? ⟨g, o, none⟩ = ([.int .i64 0, .int .i64 0, .int .i64 4, .int .i64 4, .int .i64 4, .int .i64 0, .int .i64 1, .int .i64 4] : List Value)[o]?) (hf : ∀ o, w.frozen? ⟨g, o, none⟩ = false) :
    Calls Try.prog 32 #[.slice (some ⟨g, 0, none⟩) 2 cap, .int .i64 1] w fun e w' => e = .returned (.tuple #[.agg #[.int .i64 4, .int .i64 0, .int .i64 1, .int .i64 4], .slice (some ⟨g, 0, none⟩) 1 cap]) ∧ (∀ o, o < 4 → w'.cell? ⟨g, o, none⟩ = ([.int .i64 0, .int .i64 0, .int .i64 4, .int .i64 4] : List Value)[o]?) ∧ g < w'.heap.size ∧ w.heap.size ≤ w'.heap.size ∧ (∀ B W0, B ≤ g → B ≤ w.heap.size → Below B W0 w → Below B W0 w') ∧ (∀ b (cs : Array Value), g ≠ b → b < w.heap.size → (∀ o, w.cell? ⟨b, o, none⟩ = cs[o]?) → ∀ o, w'.cell? ⟨b, o, none⟩ = cs[o]?) ∧ (∀ b, b < w.heap.size → (∀ o, w.frozen? ⟨b, o, none⟩ = false) → ∀ o, w'.frozen? ⟨b, o, none⟩ = false) := by
  refine (taken2 g cap h2 hm (fun o => ([0, 0, 4, 4, 4, 0, 1, 4] : List Int).getD o 0) w hlt (fun o ho => ?_) hf).mono ?_
  · rw [hc o ho]
    match o, ho with
    | 0, _ => rfl
    | 1, _ => rfl
    | 2, _ => rfl
    | 3, _ => rfl
    | 4, _ => rfl
    | 5, _ => rfl
    | 6, _ => rfl
    | 7, _ => rfl
  · rintro e w' ⟨he, h1, h3⟩
    refine ⟨he, fun o ho => ?_, h3⟩
    rw [h1 o ho]
    match o, ho with
    | 0, _ => rfl
    | 1, _ => rfl
    | 2, _ => rfl
    | 3, _ => rfl
end Go.Proofs.Ytoalihdempcbjaa
