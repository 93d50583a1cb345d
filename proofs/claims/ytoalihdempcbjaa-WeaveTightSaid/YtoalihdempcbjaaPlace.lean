/- What the law's place answers: a spot's place in the square. -/
import Derived.Test.YtoalihdempcbjaaWCounts
namespace Go.Proofs.Ytoalihdempcbjaa
open Go.RowKit
set_option maxRecDepth 100000
set_option linter.unusedSimpArgs false
set_option linter.unusedVariables false
theorem wsmall {x : Int} (h0 : 0 ≤ x) (h1 : x ≤ 1000000000000) : IntKind.i64.wrap x = x := IntWalk.i64_in _ (by omega)
theorem quo_fact {A m : Nat} {X : Nat} (hm : 1 ≤ m) (h : A / m = X) : (A : Int).tdiv (m : Int) = (X : Int) ∧ (A : Int) / (m : Int) = (X : Int) := by
  rw [← h]
  exact ⟨by rw [Int.tdiv_eq_ediv_of_nonneg (by omega)]; rfl, rfl⟩
set_option maxHeartbeats 2000000 in
theorem place_3 (r0 r1 r2 r3 m a b X Y : Nat) (hmx : mx (mx (mx (r0 : Int) (r1 : Int)) (r2 : Int)) (r3 : Int) = (m : Int)) (hm : 1 ≤ m ∧ m ≤ 16) (ha : a ≤ 16) (hb : b ≤ 16) (hX : a * 720720 / m = X) (hY : b * 720720 / m = Y) (w : World) :
    Calls Try.prog 25 #[.agg #[.int .i64 (r0 : Int), .int .i64 (r1 : Int), .int .i64 (r2 : Int), .int .i64 (r3 : Int)], .agg #[.int .i64 3, .int .i64 (a : Int), .int .i64 (b : Int)], .int .i64 720720] w fun e w' => e = .returned (.agg #[.int .i64 (X : Int), .int .i64 (Y : Int)]) ∧ Below w.heap.size w w' := by
  have M4 : ∀ w, Sem.run Try.prog (Builtin.max_ #[3, 3, 3, 3] 3 #[.int .i64 (r0 : Int), .int .i64 (r1 : Int), .int .i64 (r2 : Int), .int .i64 (r3 : Int)]) w = .ok (.int .i64 (m : Int)) w := fun w => by rw [← hmx]; exact own_max4 _ _ _ _ _ _ w
  clear hmx
  have z0 : ¬ ((m : Int) = 0) := by omega
  have z2 : ¬ m = 0 := by omega
  have z1 : ((m : Int) == 0) = false := beq_eq_false_iff_ne.mpr z0
  obtain ⟨A, hA⟩ : ∃ A, a * 720720 = A := ⟨_, rfl⟩
  obtain ⟨B, hB⟩ : ∃ B, b * 720720 = B := ⟨_, rfl⟩
  rw [hA] at hX
  rw [hB] at hY
  have hXl : X ≤ A := by rw [← hX]; exact Nat.div_le_self _ _
  have hYl : Y ≤ B := by rw [← hY]; exact Nat.div_le_self _ _
  obtain ⟨qa, qa'⟩ := quo_fact hm.1 hX
  obtain ⟨qb, qb'⟩ := quo_fact hm.1 hY
  have wA : IntKind.i64.wrap ((a : Int) * 720720) = (A : Int) := by rw [show (a : Int) * 720720 = (A : Int) by omega]; exact wsmall (by omega) (by omega)
  have wB : IntKind.i64.wrap ((b : Int) * 720720) = (B : Int) := by rw [show (b : Int) * 720720 = (B : Int) by omega]; exact wsmall (by omega) (by omega)
  have wX : IntKind.i64.wrap (X : Int) = (X : Int) := wsmall (by omega) (by omega)
  have wY : IntKind.i64.wrap (Y : Int) = (Y : Int) := wsmall (by omega) (by omega)
  clear hX hY hA hB
  go_enter Try.func25, Try.ntmps25
  go_wp2_with fail
  refine wp_region_held_drew (S := (fun w' => ∀ o, w'.cell? ⟨w.heap.size + 1, o, none⟩ = (#[.int .i64 3, .int .i64 (a : Int), .int .i64 (b : Int)] : Array Value)[o]?)) (by kernel_rfl) ?_ (fun hHeld => ?_)
  · (try dsimp only); (exact blk_alloc (by simp) _ (new_at (by rw [World.size_alloc]) _ _))
  refine wpAnyH_take (i := 0) (oi := { dst := some 21, op := Go.Op.fieldAddr 50 (Go.Operand.tmp 4) 1, type := 0, pos := "law.go:125", after := #[], guard := none }) (v := ?_) rfl (by kernel_rfl) (by kernel_rfl) (by kernel_rfl) (fun _ _ _ h => h) (Or.inl ⟨by rfl, ?_⟩) (by assumption) ?_
  rotate_left
  · intro w hSw; (try dsimp only at hSw); go_simp; (try with_reducible rfl)
  try simp only [Act.put, List.setIfInBounds_toArray, List.set_cons_zero, List.set_cons_succ]
  refine wpAnyH_take (i := 1) (oi := { dst := some 22, op := Go.Op.load 3 (Go.Operand.tmp 21), type := 3, pos := "law.go:125", after := #[{ on := 0, ground := Go.Ground.data }], guard := none }) (v := ?_) rfl (by kernel_rfl) (by kernel_rfl) (by kernel_rfl) (fun _ _ _ h => h) (Or.inl ⟨by rfl, ?_⟩) (by assumption) ?_
  rotate_left
  · intro w hSw; (try dsimp only at hSw); go_simp; (try with_reducible rfl)
  try simp only [Act.put, List.setIfInBounds_toArray, List.set_cons_zero, List.set_cons_succ]
  refine wpAnyH_take (i := 2) (oi := { dst := some 23, op := Go.Op.move (Go.Operand.tmp 2), type := 3, pos := "law.go:125", after := #[], guard := none }) (v := ?_) rfl (by kernel_rfl) (by kernel_rfl) (by kernel_rfl) (fun _ _ _ h => h) (Or.inl ⟨by rfl, ?_⟩) (by assumption) ?_
  rotate_left
  · intro w hSw; (try dsimp only at hSw); go_simp; (try with_reducible rfl)
  try simp only [Act.put, List.setIfInBounds_toArray, List.set_cons_zero, List.set_cons_succ]
  refine wpAnyH_take (i := 3) (oi := { dst := some 24, op := Go.Op.binOp Go.BinOp.mul 3 (Go.Operand.tmp 22) (Go.Operand.tmp 23) 3, type := 3, pos := "law.go:125", after := #[{ on := 1, ground := Go.Ground.data }, { on := 2, ground := Go.Ground.data }], guard := none }) (v := ?_) rfl (by kernel_rfl) (by kernel_rfl) (by kernel_rfl) (fun _ _ _ h => h) (Or.inl ⟨by rfl, ?_⟩) (by assumption) ?_
  rotate_left
  · intro w hSw; (try dsimp only at hSw); go_simp; (try with_reducible rfl)
  try simp only [Act.put, List.setIfInBounds_toArray, List.set_cons_zero, List.set_cons_succ]
  refine wpAnyH_take (i := 4) (oi := { dst := some 25, op := Go.Op.move (Go.Operand.tmp 7), type := 3, pos := "law.go:125", after := #[], guard := none }) (v := ?_) rfl (by kernel_rfl) (by kernel_rfl) (by kernel_rfl) (fun _ _ _ h => h) (Or.inl ⟨by rfl, ?_⟩) (by assumption) ?_
  rotate_left
  · intro w hSw; (try dsimp only at hSw); go_simp; (try with_reducible rfl)
  try simp only [Act.put, List.setIfInBounds_toArray, List.set_cons_zero, List.set_cons_succ]
  refine wpAnyH_take (i := 5) (oi := { dst := some 26, op := Go.Op.binOp Go.BinOp.quo 3 (Go.Operand.tmp 24) (Go.Operand.tmp 25) 3, type := 3, pos := "law.go:125", after := #[{ on := 3, ground := Go.Ground.data }, { on := 4, ground := Go.Ground.data }], guard := none }) (v := ?_) rfl (by kernel_rfl) (by kernel_rfl) (by kernel_rfl) (fun _ _ _ h => h) (Or.inl ⟨by rfl, ?_⟩) (by assumption) ?_
  rotate_left
  · intro w hSw; (try dsimp only at hSw); go_simp; (try with_reducible rfl)
  try simp only [Act.put, List.setIfInBounds_toArray, List.set_cons_zero, List.set_cons_succ]
  refine wpAnyH_take (i := 6) (oi := { dst := some 27, op := Go.Op.fieldAddr 50 (Go.Operand.tmp 4) 2, type := 0, pos := "law.go:125", after := #[], guard := none }) (v := ?_) rfl (by kernel_rfl) (by kernel_rfl) (by kernel_rfl) (fun _ _ _ h => h) (Or.inl ⟨by rfl, ?_⟩) (by assumption) ?_
  rotate_left
  · intro w hSw; (try dsimp only at hSw); go_simp; (try with_reducible rfl)
  try simp only [Act.put, List.setIfInBounds_toArray, List.set_cons_zero, List.set_cons_succ]
  refine wpAnyH_take (i := 7) (oi := { dst := some 28, op := Go.Op.load 3 (Go.Operand.tmp 27), type := 3, pos := "law.go:125", after := #[{ on := 6, ground := Go.Ground.data }], guard := none }) (v := ?_) rfl (by kernel_rfl) (by kernel_rfl) (by kernel_rfl) (fun _ _ _ h => h) (Or.inl ⟨by rfl, ?_⟩) (by assumption) ?_
  rotate_left
  · intro w hSw; (try dsimp only at hSw); go_simp; (try with_reducible rfl)
  try simp only [Act.put, List.setIfInBounds_toArray, List.set_cons_zero, List.set_cons_succ]
  refine wpAnyH_take (i := 8) (oi := { dst := some 29, op := Go.Op.move (Go.Operand.tmp 2), type := 3, pos := "law.go:125", after := #[], guard := none }) (v := ?_) rfl (by kernel_rfl) (by kernel_rfl) (by kernel_rfl) (fun _ _ _ h => h) (Or.inl ⟨by rfl, ?_⟩) (by assumption) ?_
  rotate_left
  · intro w hSw; (try dsimp only at hSw); go_simp; (try with_reducible rfl)
  try simp only [Act.put, List.setIfInBounds_toArray, List.set_cons_zero, List.set_cons_succ]
  refine wpAnyH_take (i := 9) (oi := { dst := some 30, op := Go.Op.binOp Go.BinOp.mul 3 (Go.Operand.tmp 28) (Go.Operand.tmp 29) 3, type := 3, pos := "law.go:125", after := #[{ on := 7, ground := Go.Ground.data }, { on := 8, ground := Go.Ground.data }], guard := none }) (v := ?_) rfl (by kernel_rfl) (by kernel_rfl) (by kernel_rfl) (fun _ _ _ h => h) (Or.inl ⟨by rfl, ?_⟩) (by assumption) ?_
  rotate_left
  · intro w hSw; (try dsimp only at hSw); go_simp; (try with_reducible rfl)
  try simp only [Act.put, List.setIfInBounds_toArray, List.set_cons_zero, List.set_cons_succ]
  refine wpAnyH_take (i := 10) (oi := { dst := some 31, op := Go.Op.move (Go.Operand.tmp 7), type := 3, pos := "law.go:125", after := #[], guard := none }) (v := ?_) rfl (by kernel_rfl) (by kernel_rfl) (by kernel_rfl) (fun _ _ _ h => h) (Or.inl ⟨by rfl, ?_⟩) (by assumption) ?_
  rotate_left
  · intro w hSw; (try dsimp only at hSw); go_simp; (try with_reducible rfl)
  try simp only [Act.put, List.setIfInBounds_toArray, List.set_cons_zero, List.set_cons_succ]
  refine wpAnyH_take (i := 11) (oi := { dst := some 32, op := Go.Op.binOp Go.BinOp.quo 3 (Go.Operand.tmp 30) (Go.Operand.tmp 31) 3, type := 3, pos := "law.go:125", after := #[{ on := 9, ground := Go.Ground.data }, { on := 10, ground := Go.Ground.data }], guard := none }) (v := ?_) rfl (by kernel_rfl) (by kernel_rfl) (by kernel_rfl) (fun _ _ _ h => h) (Or.inl ⟨by rfl, ?_⟩) (by assumption) ?_
  rotate_left
  · intro w hSw; (try dsimp only at hSw); go_simp; (try with_reducible rfl)
  try simp only [Act.put, List.setIfInBounds_toArray, List.set_cons_zero, List.set_cons_succ]
  refine wpAnyH_take (i := 12) (oi := { dst := some 33, op := Go.Op.build 55 #[(0, Go.Operand.tmp 26), (1, Go.Operand.tmp 32)], type := 55, pos := "law.go:125", after := #[{ on := 5, ground := Go.Ground.data }, { on := 11, ground := Go.Ground.data }], guard := none }) (v := ?_) rfl (by kernel_rfl) (by kernel_rfl) (by kernel_rfl) (fun _ _ _ h => h) (Or.inl ⟨by rfl, ?_⟩) (by assumption) ?_
  rotate_left
  · intro w hSw; (try dsimp only at hSw); go_simp; (try with_reducible rfl)
  try simp only [Act.put, List.setIfInBounds_toArray, List.set_cons_zero, List.set_cons_succ]
  refine wpAnyH_ready (rs := [13]) (by kernel_rfl) (by simp) ?_
  refine AllReadyH.cons (o := { dst := none, op := Go.Op.store 55 (Go.Operand.tmp 6) (Go.Operand.tmp 33), type := 0, pos := "law.go:125", after := #[{ on := 12, ground := Go.Ground.data }, { on := 0, ground := Go.Ground.phase }, { on := 1, ground := Go.Ground.phase }, { on := 2, ground := Go.Ground.phase }, { on := 3, ground := Go.Ground.phase }, { on := 4, ground := Go.Ground.phase }, { on := 5, ground := Go.Ground.phase }, { on := 6, ground := Go.Ground.phase }, { on := 7, ground := Go.Ground.phase }, { on := 8, ground := Go.Ground.phase }, { on := 9, ground := Go.Ground.phase }, { on := 10, ground := Go.Ground.phase }, { on := 11, ground := Go.Ground.phase }, { on := 12, ground := Go.Ground.phase }], guard := none }) rfl (fun K hK => ?_) AllReadyH.nil
  go_simp
  skip
  refine hK.out _ _ ?_ (fun hHeld13 => ?_)
  · (try dsimp only); (exact blk_alloc (by simp) _ (new_at (by rw [World.size_alloc]) _ _))
  clear hK K hHeld
  try simp only [Act.put, List.setIfInBounds_toArray, List.set_cons_zero, List.set_cons_succ]
  refine wpAnyH_done (by kernel_rfl) ?_ _
  clear hHeld13
  go_wp2_with fail
  have K : ∀ o, (((w.alloc (.cells #[.int .i64 (r0 : Int), .int .i64 (r1 : Int), .int .i64 (r2 : Int), .int .i64 (r3 : Int)] 44)).alloc (.cells #[.int .i64 3, .int .i64 (a : Int), .int .i64 (b : Int)] 50)).alloc (.cells #[.int .i64 (X : Int), .int .i64 (Y : Int)] 55)).cell? ⟨w.heap.size + 1 + 1, o, none⟩ = (#[.int .i64 (X : Int), .int .i64 (Y : Int)] : Array Value)[o]? := new_at (by rw [World.size_alloc, World.size_alloc]) _ _
  have k0 := (K 0).trans (show _ = some (.int .i64 (X : Int)) from rfl)
  have k1 := (K 1).trans (show _ = some (.int .i64 (Y : Int)) from rfl)
  clear K
  refine bodyPost_ret (v := .agg #[.int .i64 (X : Int), .int .i64 (Y : Int)]) (by simp [results, Try.results25, go_sem, k0, k1]) rfl ?_
  exact ⟨rfl, by (repeat' (first | (with_reducible exact Below.refl _ _) | (with_reducible refine bstep (by with_reducible assumption) ?_) | (with_reducible refine Below.alloc ?_ ?_ _) | (with_reducible refine Below.drew ?_) | (with_reducible refine below_drewN ?_ _) | (with_reducible refine Below.setCell ?_ ?_ _) | go_size))⟩
set_option maxHeartbeats 2000000 in
theorem place_1_0 (r0 r1 r2 r3 m q : Nat) (hmx : mx (mx (mx (r0 : Int) (r1 : Int)) (r2 : Int)) (r3 : Int) = (m : Int)) (w : World) :
    Calls Try.prog 25 #[.agg #[.int .i64 (r0 : Int), .int .i64 (r1 : Int), .int .i64 (r2 : Int), .int .i64 (r3 : Int)], .agg #[.int .i64 1, .int .i64 0, .int .i64 0], .int .i64 720720] w fun e w' => e = .returned (.agg #[.int .i64 0, .int .i64 0]) ∧ Below w.heap.size w w' := by
  have M4 : ∀ w, Sem.run Try.prog (Builtin.max_ #[3, 3, 3, 3] 3 #[.int .i64 (r0 : Int), .int .i64 (r1 : Int), .int .i64 (r2 : Int), .int .i64 (r3 : Int)]) w = .ok (.int .i64 (m : Int)) w := fun w => by rw [← hmx]; exact own_max4 _ _ _ _ _ _ w
  clear hmx
  go_enter Try.func25, Try.ntmps25
  go_wp2_with fail
  have K : ∀ o, (((w.alloc (.cells #[.int .i64 (r0 : Int), .int .i64 (r1 : Int), .int .i64 (r2 : Int), .int .i64 (r3 : Int)] 44)).alloc (.cells #[.int .i64 1, .int .i64 0, .int .i64 0] 50)).alloc (.cells #[.int .i64 0, .int .i64 0] 55)).cell? ⟨w.heap.size + 1 + 1, o, none⟩ = (#[.int .i64 0, .int .i64 0] : Array Value)[o]? := new_at (by rw [World.size_alloc, World.size_alloc]) _ _
  have k0 := (K 0).trans (show _ = some (.int .i64 0) from rfl)
  have k1 := (K 1).trans (show _ = some (.int .i64 0) from rfl)
  clear K
  refine bodyPost_ret (v := .agg #[.int .i64 0, .int .i64 0]) (by simp [results, Try.results25, go_sem, k0, k1]) rfl ?_
  exact ⟨rfl, by (repeat' (first | (with_reducible exact Below.refl _ _) | (with_reducible refine bstep (by with_reducible assumption) ?_) | (with_reducible refine Below.alloc ?_ ?_ _) | (with_reducible refine Below.drew ?_) | (with_reducible refine below_drewN ?_ _) | (with_reducible refine Below.setCell ?_ ?_ _) | go_size))⟩
set_option maxHeartbeats 2000000 in
theorem place_1_1 (r0 r1 r2 r3 m q : Nat) (hmx : mx (mx (mx (r0 : Int) (r1 : Int)) (r2 : Int)) (r3 : Int) = (m : Int)) (w : World) :
    Calls Try.prog 25 #[.agg #[.int .i64 (r0 : Int), .int .i64 (r1 : Int), .int .i64 (r2 : Int), .int .i64 (r3 : Int)], .agg #[.int .i64 1, .int .i64 1, .int .i64 0], .int .i64 720720] w fun e w' => e = .returned (.agg #[.int .i64 720720, .int .i64 0]) ∧ Below w.heap.size w w' := by
  have M4 : ∀ w, Sem.run Try.prog (Builtin.max_ #[3, 3, 3, 3] 3 #[.int .i64 (r0 : Int), .int .i64 (r1 : Int), .int .i64 (r2 : Int), .int .i64 (r3 : Int)]) w = .ok (.int .i64 (m : Int)) w := fun w => by rw [← hmx]; exact own_max4 _ _ _ _ _ _ w
  clear hmx
  go_enter Try.func25, Try.ntmps25
  go_wp2_with fail
  have K : ∀ o, (((w.alloc (.cells #[.int .i64 (r0 : Int), .int .i64 (r1 : Int), .int .i64 (r2 : Int), .int .i64 (r3 : Int)] 44)).alloc (.cells #[.int .i64 1, .int .i64 1, .int .i64 0] 50)).alloc (.cells #[.int .i64 720720, .int .i64 0] 55)).cell? ⟨w.heap.size + 1 + 1, o, none⟩ = (#[.int .i64 720720, .int .i64 0] : Array Value)[o]? := new_at (by rw [World.size_alloc, World.size_alloc]) _ _
  have k0 := (K 0).trans (show _ = some (.int .i64 720720) from rfl)
  have k1 := (K 1).trans (show _ = some (.int .i64 0) from rfl)
  clear K
  refine bodyPost_ret (v := .agg #[.int .i64 720720, .int .i64 0]) (by simp [results, Try.results25, go_sem, k0, k1]) rfl ?_
  exact ⟨rfl, by (repeat' (first | (with_reducible exact Below.refl _ _) | (with_reducible refine bstep (by with_reducible assumption) ?_) | (with_reducible refine Below.alloc ?_ ?_ _) | (with_reducible refine Below.drew ?_) | (with_reducible refine below_drewN ?_ _) | (with_reducible refine Below.setCell ?_ ?_ _) | go_size))⟩
set_option maxHeartbeats 2000000 in
theorem place_1_2 (r0 r1 r2 r3 m q : Nat) (hmx : mx (mx (mx (r0 : Int) (r1 : Int)) (r2 : Int)) (r3 : Int) = (m : Int)) (w : World) :
    Calls Try.prog 25 #[.agg #[.int .i64 (r0 : Int), .int .i64 (r1 : Int), .int .i64 (r2 : Int), .int .i64 (r3 : Int)], .agg #[.int .i64 1, .int .i64 2, .int .i64 0], .int .i64 720720] w fun e w' => e = .returned (.agg #[.int .i64 720720, .int .i64 720720]) ∧ Below w.heap.size w w' := by
  have M4 : ∀ w, Sem.run Try.prog (Builtin.max_ #[3, 3, 3, 3] 3 #[.int .i64 (r0 : Int), .int .i64 (r1 : Int), .int .i64 (r2 : Int), .int .i64 (r3 : Int)]) w = .ok (.int .i64 (m : Int)) w := fun w => by rw [← hmx]; exact own_max4 _ _ _ _ _ _ w
  clear hmx
  go_enter Try.func25, Try.ntmps25
  go_wp2_with fail
  have K : ∀ o, (((w.alloc (.cells #[.int .i64 (r0 : Int), .int .i64 (r1 : Int), .int .i64 (r2 : Int), .int .i64 (r3 : Int)] 44)).alloc (.cells #[.int .i64 1, .int .i64 2, .int .i64 0] 50)).alloc (.cells #[.int .i64 720720, .int .i64 720720] 55)).cell? ⟨w.heap.size + 1 + 1, o, none⟩ = (#[.int .i64 720720, .int .i64 720720] : Array Value)[o]? := new_at (by rw [World.size_alloc, World.size_alloc]) _ _
  have k0 := (K 0).trans (show _ = some (.int .i64 720720) from rfl)
  have k1 := (K 1).trans (show _ = some (.int .i64 720720) from rfl)
  clear K
  refine bodyPost_ret (v := .agg #[.int .i64 720720, .int .i64 720720]) (by simp [results, Try.results25, go_sem, k0, k1]) rfl ?_
  exact ⟨rfl, by (repeat' (first | (with_reducible exact Below.refl _ _) | (with_reducible refine bstep (by with_reducible assumption) ?_) | (with_reducible refine Below.alloc ?_ ?_ _) | (with_reducible refine Below.drew ?_) | (with_reducible refine below_drewN ?_ _) | (with_reducible refine Below.setCell ?_ ?_ _) | go_size))⟩
set_option maxHeartbeats 2000000 in
theorem place_1_3 (r0 r1 r2 r3 m q : Nat) (hmx : mx (mx (mx (r0 : Int) (r1 : Int)) (r2 : Int)) (r3 : Int) = (m : Int)) (w : World) :
    Calls Try.prog 25 #[.agg #[.int .i64 (r0 : Int), .int .i64 (r1 : Int), .int .i64 (r2 : Int), .int .i64 (r3 : Int)], .agg #[.int .i64 1, .int .i64 3, .int .i64 0], .int .i64 720720] w fun e w' => e = .returned (.agg #[.int .i64 0, .int .i64 720720]) ∧ Below w.heap.size w w' := by
  have M4 : ∀ w, Sem.run Try.prog (Builtin.max_ #[3, 3, 3, 3] 3 #[.int .i64 (r0 : Int), .int .i64 (r1 : Int), .int .i64 (r2 : Int), .int .i64 (r3 : Int)]) w = .ok (.int .i64 (m : Int)) w := fun w => by rw [← hmx]; exact own_max4 _ _ _ _ _ _ w
  clear hmx
  go_enter Try.func25, Try.ntmps25
  go_wp2_with fail
  have K : ∀ o, (((w.alloc (.cells #[.int .i64 (r0 : Int), .int .i64 (r1 : Int), .int .i64 (r2 : Int), .int .i64 (r3 : Int)] 44)).alloc (.cells #[.int .i64 1, .int .i64 3, .int .i64 0] 50)).alloc (.cells #[.int .i64 0, .int .i64 720720] 55)).cell? ⟨w.heap.size + 1 + 1, o, none⟩ = (#[.int .i64 0, .int .i64 720720] : Array Value)[o]? := new_at (by rw [World.size_alloc, World.size_alloc]) _ _
  have k0 := (K 0).trans (show _ = some (.int .i64 0) from rfl)
  have k1 := (K 1).trans (show _ = some (.int .i64 720720) from rfl)
  clear K
  refine bodyPost_ret (v := .agg #[.int .i64 0, .int .i64 720720]) (by simp [results, Try.results25, go_sem, k0, k1]) rfl ?_
  exact ⟨rfl, by (repeat' (first | (with_reducible exact Below.refl _ _) | (with_reducible refine bstep (by with_reducible assumption) ?_) | (with_reducible refine Below.alloc ?_ ?_ _) | (with_reducible refine Below.drew ?_) | (with_reducible refine below_drewN ?_ _) | (with_reducible refine Below.setCell ?_ ?_ _) | go_size))⟩
set_option maxHeartbeats 2000000 in
theorem place_2_0 (r0 r1 r2 r3 m b X : Nat) (hmx : mx (mx (mx (r0 : Int) (r1 : Int)) (r2 : Int)) (r3 : Int) = (m : Int)) (hr : 1 ≤ r0 ∧ r0 ≤ 16) (hb : b ≤ 16) (hX : b * 720720 / r0 = X) (hX2 : X ≤ 720720) (w : World) :
    Calls Try.prog 25 #[.agg #[.int .i64 (r0 : Int), .int .i64 (r1 : Int), .int .i64 (r2 : Int), .int .i64 (r3 : Int)], .agg #[.int .i64 2, .int .i64 0, .int .i64 (b : Int)], .int .i64 720720] w fun e w' => e = .returned (.agg #[.int .i64 (X : Int), .int .i64 0]) ∧ Below w.heap.size w w' := by
  have M4 : ∀ w, Sem.run Try.prog (Builtin.max_ #[3, 3, 3, 3] 3 #[.int .i64 (r0 : Int), .int .i64 (r1 : Int), .int .i64 (r2 : Int), .int .i64 (r3 : Int)]) w = .ok (.int .i64 (m : Int)) w := fun w => by rw [← hmx]; exact own_max4 _ _ _ _ _ _ w
  clear hmx
  have z0 : ¬ ((r0 : Int) = 0) := by omega
  have z2 : ¬ r0 = 0 := by omega
  have z1 : ((r0 : Int) == 0) = false := beq_eq_false_iff_ne.mpr z0
  obtain ⟨A, hA⟩ : ∃ A, b * 720720 = A := ⟨_, rfl⟩
  rw [hA] at hX
  obtain ⟨qa, qa'⟩ := quo_fact hr.1 hX
  have wA : IntKind.i64.wrap ((b : Int) * 720720) = (A : Int) := by rw [show (b : Int) * 720720 = (A : Int) by omega]; exact wsmall (by omega) (by omega)
  have wX : IntKind.i64.wrap (X : Int) = (X : Int) := wsmall (by omega) (by omega)
  clear hX hA
  go_enter Try.func25, Try.ntmps25
  go_wp2_with fail
  go_quiet (fail)
  go_wp2_with fail
  have K : ∀ o, (((w.alloc (.cells #[.int .i64 (r0 : Int), .int .i64 (r1 : Int), .int .i64 (r2 : Int), .int .i64 (r3 : Int)] 44)).alloc (.cells #[.int .i64 2, .int .i64 0, .int .i64 (b : Int)] 50)).alloc (.cells #[.int .i64 (X : Int), .int .i64 0] 55)).cell? ⟨w.heap.size + 1 + 1, o, none⟩ = (#[.int .i64 (X : Int), .int .i64 0] : Array Value)[o]? := new_at (by rw [World.size_alloc, World.size_alloc]) _ _
  have k0 := (K 0).trans (show _ = some (.int .i64 (X : Int)) from rfl)
  have k1 := (K 1).trans (show _ = some (.int .i64 0) from rfl)
  clear K
  refine bodyPost_ret (v := .agg #[.int .i64 (X : Int), .int .i64 0]) (by simp [results, Try.results25, go_sem, k0, k1]) rfl ?_
  exact ⟨rfl, by (repeat' (first | (with_reducible exact Below.refl _ _) | (with_reducible refine bstep (by with_reducible assumption) ?_) | (with_reducible refine Below.alloc ?_ ?_ _) | (with_reducible refine Below.drew ?_) | (with_reducible refine below_drewN ?_ _) | (with_reducible refine Below.setCell ?_ ?_ _) | go_size))⟩
set_option maxHeartbeats 2000000 in
theorem place_2_1 (r0 r1 r2 r3 m b X : Nat) (hmx : mx (mx (mx (r0 : Int) (r1 : Int)) (r2 : Int)) (r3 : Int) = (m : Int)) (hr : 1 ≤ r1 ∧ r1 ≤ 16) (hb : b ≤ 16) (hX : b * 720720 / r1 = X) (hX2 : X ≤ 720720) (w : World) :
    Calls Try.prog 25 #[.agg #[.int .i64 (r0 : Int), .int .i64 (r1 : Int), .int .i64 (r2 : Int), .int .i64 (r3 : Int)], .agg #[.int .i64 2, .int .i64 1, .int .i64 (b : Int)], .int .i64 720720] w fun e w' => e = .returned (.agg #[.int .i64 720720, .int .i64 (X : Int)]) ∧ Below w.heap.size w w' := by
  have M4 : ∀ w, Sem.run Try.prog (Builtin.max_ #[3, 3, 3, 3] 3 #[.int .i64 (r0 : Int), .int .i64 (r1 : Int), .int .i64 (r2 : Int), .int .i64 (r3 : Int)]) w = .ok (.int .i64 (m : Int)) w := fun w => by rw [← hmx]; exact own_max4 _ _ _ _ _ _ w
  clear hmx
  have z0 : ¬ ((r1 : Int) = 0) := by omega
  have z2 : ¬ r1 = 0 := by omega
  have z1 : ((r1 : Int) == 0) = false := beq_eq_false_iff_ne.mpr z0
  obtain ⟨A, hA⟩ : ∃ A, b * 720720 = A := ⟨_, rfl⟩
  rw [hA] at hX
  obtain ⟨qa, qa'⟩ := quo_fact hr.1 hX
  have wA : IntKind.i64.wrap ((b : Int) * 720720) = (A : Int) := by rw [show (b : Int) * 720720 = (A : Int) by omega]; exact wsmall (by omega) (by omega)
  have wX : IntKind.i64.wrap (X : Int) = (X : Int) := wsmall (by omega) (by omega)
  clear hX hA
  go_enter Try.func25, Try.ntmps25
  go_wp2_with fail
  go_quiet (fail)
  go_wp2_with fail
  have K : ∀ o, (((w.alloc (.cells #[.int .i64 (r0 : Int), .int .i64 (r1 : Int), .int .i64 (r2 : Int), .int .i64 (r3 : Int)] 44)).alloc (.cells #[.int .i64 2, .int .i64 1, .int .i64 (b : Int)] 50)).alloc (.cells #[.int .i64 720720, .int .i64 (X : Int)] 55)).cell? ⟨w.heap.size + 1 + 1, o, none⟩ = (#[.int .i64 720720, .int .i64 (X : Int)] : Array Value)[o]? := new_at (by rw [World.size_alloc, World.size_alloc]) _ _
  have k0 := (K 0).trans (show _ = some (.int .i64 720720) from rfl)
  have k1 := (K 1).trans (show _ = some (.int .i64 (X : Int)) from rfl)
  clear K
  refine bodyPost_ret (v := .agg #[.int .i64 720720, .int .i64 (X : Int)]) (by simp [results, Try.results25, go_sem, k0, k1]) rfl ?_
  exact ⟨rfl, by (repeat' (first | (with_reducible exact Below.refl _ _) | (with_reducible refine bstep (by with_reducible assumption) ?_) | (with_reducible refine Below.alloc ?_ ?_ _) | (with_reducible refine Below.drew ?_) | (with_reducible refine below_drewN ?_ _) | (with_reducible refine Below.setCell ?_ ?_ _) | go_size))⟩
set_option maxHeartbeats 2000000 in
theorem place_2_2 (r0 r1 r2 r3 m b X : Nat) (hmx : mx (mx (mx (r0 : Int) (r1 : Int)) (r2 : Int)) (r3 : Int) = (m : Int)) (hr : 1 ≤ r2 ∧ r2 ≤ 16) (hb : b ≤ 16) (hX : b * 720720 / r2 = X) (hX2 : X ≤ 720720) (w : World) :
    Calls Try.prog 25 #[.agg #[.int .i64 (r0 : Int), .int .i64 (r1 : Int), .int .i64 (r2 : Int), .int .i64 (r3 : Int)], .agg #[.int .i64 2, .int .i64 2, .int .i64 (b : Int)], .int .i64 720720] w fun e w' => e = .returned (.agg #[.int .i64 ((720720 : Int) - (X : Int)), .int .i64 720720]) ∧ Below w.heap.size w w' := by
  have M4 : ∀ w, Sem.run Try.prog (Builtin.max_ #[3, 3, 3, 3] 3 #[.int .i64 (r0 : Int), .int .i64 (r1 : Int), .int .i64 (r2 : Int), .int .i64 (r3 : Int)]) w = .ok (.int .i64 (m : Int)) w := fun w => by rw [← hmx]; exact own_max4 _ _ _ _ _ _ w
  clear hmx
  have z0 : ¬ ((r2 : Int) = 0) := by omega
  have z2 : ¬ r2 = 0 := by omega
  have z1 : ((r2 : Int) == 0) = false := beq_eq_false_iff_ne.mpr z0
  obtain ⟨A, hA⟩ : ∃ A, b * 720720 = A := ⟨_, rfl⟩
  rw [hA] at hX
  obtain ⟨qa, qa'⟩ := quo_fact hr.1 hX
  have wA : IntKind.i64.wrap ((b : Int) * 720720) = (A : Int) := by rw [show (b : Int) * 720720 = (A : Int) by omega]; exact wsmall (by omega) (by omega)
  have wX : IntKind.i64.wrap (X : Int) = (X : Int) := wsmall (by omega) (by omega)
  clear hX hA
  go_enter Try.func25, Try.ntmps25
  go_wp2_with fail
  go_quiet (fail)
  go_wp2_with fail
  have K : ∀ o, (((w.alloc (.cells #[.int .i64 (r0 : Int), .int .i64 (r1 : Int), .int .i64 (r2 : Int), .int .i64 (r3 : Int)] 44)).alloc (.cells #[.int .i64 2, .int .i64 2, .int .i64 (b : Int)] 50)).alloc (.cells #[.int .i64 ((720720 : Int) - (X : Int)), .int .i64 720720] 55)).cell? ⟨w.heap.size + 1 + 1, o, none⟩ = (#[.int .i64 ((720720 : Int) - (X : Int)), .int .i64 720720] : Array Value)[o]? := new_at (by rw [World.size_alloc, World.size_alloc]) _ _
  have k0 := (K 0).trans (show _ = some (.int .i64 ((720720 : Int) - (X : Int))) from rfl)
  have k1 := (K 1).trans (show _ = some (.int .i64 720720) from rfl)
  clear K
  refine bodyPost_ret (v := .agg #[.int .i64 ((720720 : Int) - (X : Int)), .int .i64 720720]) (by simp [results, Try.results25, go_sem, k0, k1]) rfl ?_
  exact ⟨rfl, by (repeat' (first | (with_reducible exact Below.refl _ _) | (with_reducible refine bstep (by with_reducible assumption) ?_) | (with_reducible refine Below.alloc ?_ ?_ _) | (with_reducible refine Below.drew ?_) | (with_reducible refine below_drewN ?_ _) | (with_reducible refine Below.setCell ?_ ?_ _) | go_size))⟩
set_option maxHeartbeats 2000000 in
theorem place_2_3 (r0 r1 r2 r3 m b X : Nat) (hmx : mx (mx (mx (r0 : Int) (r1 : Int)) (r2 : Int)) (r3 : Int) = (m : Int)) (hr : 1 ≤ r3 ∧ r3 ≤ 16) (hb : b ≤ 16) (hX : b * 720720 / r3 = X) (hX2 : X ≤ 720720) (w : World) :
    Calls Try.prog 25 #[.agg #[.int .i64 (r0 : Int), .int .i64 (r1 : Int), .int .i64 (r2 : Int), .int .i64 (r3 : Int)], .agg #[.int .i64 2, .int .i64 3, .int .i64 (b : Int)], .int .i64 720720] w fun e w' => e = .returned (.agg #[.int .i64 0, .int .i64 ((720720 : Int) - (X : Int))]) ∧ Below w.heap.size w w' := by
  have M4 : ∀ w, Sem.run Try.prog (Builtin.max_ #[3, 3, 3, 3] 3 #[.int .i64 (r0 : Int), .int .i64 (r1 : Int), .int .i64 (r2 : Int), .int .i64 (r3 : Int)]) w = .ok (.int .i64 (m : Int)) w := fun w => by rw [← hmx]; exact own_max4 _ _ _ _ _ _ w
  clear hmx
  have z0 : ¬ ((r3 : Int) = 0) := by omega
  have z2 : ¬ r3 = 0 := by omega
  have z1 : ((r3 : Int) == 0) = false := beq_eq_false_iff_ne.mpr z0
  obtain ⟨A, hA⟩ : ∃ A, b * 720720 = A := ⟨_, rfl⟩
  rw [hA] at hX
  obtain ⟨qa, qa'⟩ := quo_fact hr.1 hX
  have wA : IntKind.i64.wrap ((b : Int) * 720720) = (A : Int) := by rw [show (b : Int) * 720720 = (A : Int) by omega]; exact wsmall (by omega) (by omega)
  have wX : IntKind.i64.wrap (X : Int) = (X : Int) := wsmall (by omega) (by omega)
  clear hX hA
  go_enter Try.func25, Try.ntmps25
  go_wp2_with fail
  go_quiet (fail)
  go_wp2_with fail
  have K : ∀ o, (((w.alloc (.cells #[.int .i64 (r0 : Int), .int .i64 (r1 : Int), .int .i64 (r2 : Int), .int .i64 (r3 : Int)] 44)).alloc (.cells #[.int .i64 2, .int .i64 3, .int .i64 (b : Int)] 50)).alloc (.cells #[.int .i64 0, .int .i64 ((720720 : Int) - (X : Int))] 55)).cell? ⟨w.heap.size + 1 + 1, o, none⟩ = (#[.int .i64 0, .int .i64 ((720720 : Int) - (X : Int))] : Array Value)[o]? := new_at (by rw [World.size_alloc, World.size_alloc]) _ _
  have k0 := (K 0).trans (show _ = some (.int .i64 0) from rfl)
  have k1 := (K 1).trans (show _ = some (.int .i64 ((720720 : Int) - (X : Int))) from rfl)
  clear K
  refine bodyPost_ret (v := .agg #[.int .i64 0, .int .i64 ((720720 : Int) - (X : Int))]) (by simp [results, Try.results25, go_sem, k0, k1]) rfl ?_
  exact ⟨rfl, by (repeat' (first | (with_reducible exact Below.refl _ _) | (with_reducible refine bstep (by with_reducible assumption) ?_) | (with_reducible refine Below.alloc ?_ ?_ _) | (with_reducible refine Below.drew ?_) | (with_reducible refine below_drewN ?_ _) | (with_reducible refine Below.setCell ?_ ?_ _) | go_size))⟩
end Go.Proofs.Ytoalihdempcbjaa
