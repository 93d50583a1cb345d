/- What weave.Weave answers: nothing where a rate is out of bounds; else the document's spots and triangles. -/
import Derived.Test.YtoalihdempcbjaaWv7
namespace Go.Proofs.Ytoalihdempcbjaa
open Go.RowKit
open Go.Maps (Keyed)
set_option maxRecDepth 100000
set_option linter.unusedSimpArgs false
set_option linter.unusedVariables false
def C4 (a b c d : Int) : Array Value := #[.int .i64 a, .int .i64 b, .int .i64 c, .int .i64 d]
theorem min4_any (a b c d l : Int) (hl : min (min (min a b) c) d = l) (bl : Nat) (w : World) (hc : ∀ o, w.cell? ⟨bl, o, none⟩ = (#[.int .i64 a, .int .i64 b, .int .i64 c, .int .i64 d] : Array Value)[o]?) :
    Calls Try.prog 33 #[.slice (some ⟨bl, 0, none⟩) 4 4] w fun e w' => e = .returned (.int .i64 l) ∧ w' = w := by
  have hc' : ∀ j, j < ([a, b, c, d] : List Int).length → w.cell? ⟨bl, 0 + j, none⟩ = some (.int .i64 (([a, b, c, d] : List Int).getD j 0)) := fun j hj => by
    match j, hj with
    | 0, _ => exact hc 0
    | 1, _ => exact hc 1
    | 2, _ => exact hc 2
    | 3, _ => exact hc 3
  have mi := min_any bl 0 4 4 [a, b, c, d] w (by omega) (by simp) (by omega) hc'
  rw [show Lib.minOf (([a, b, c, d] : List Int).take 4) = l by rw [← hl]; simp [Lib.minOf]] at mi
  exact mi
theorem max4_any (a b c d g : Int) (hg : max (max (max a b) c) d = g) (bl : Nat) (w : World) (hc : ∀ o, w.cell? ⟨bl, o, none⟩ = (#[.int .i64 a, .int .i64 b, .int .i64 c, .int .i64 d] : Array Value)[o]?) :
    Calls Try.prog 34 #[.slice (some ⟨bl, 0, none⟩) 4 4] w fun e w' => e = .returned (.int .i64 g) ∧ w' = w := by
  have hc' : ∀ j, j < ([a, b, c, d] : List Int).length → w.cell? ⟨bl, 0 + j, none⟩ = some (.int .i64 (([a, b, c, d] : List Int).getD j 0)) := fun j hj => by
    match j, hj with
    | 0, _ => exact hc 0
    | 1, _ => exact hc 1
    | 2, _ => exact hc 2
    | 3, _ => exact hc 3
  have ma := max_any bl 0 4 4 [a, b, c, d] w (by omega) (by simp) (by omega) hc'
  rw [show Lib.maxOf (([a, b, c, d] : List Int).take 4) = g by rw [← hg]; simp [Lib.maxOf]] at ma
  exact ma
def ok4 (a b c d : Int) : Prop := (1 ≤ a ∧ a ≤ 16) ∧ (1 ≤ b ∧ b ≤ 16) ∧ (1 ≤ c ∧ c ≤ 16) ∧ (1 ≤ d ∧ d ≤ 16)
set_option maxHeartbeats 2000000 in
theorem weave_no (a b c d : Int) (h : ¬ ok4 a b c d) (w : World) :
    Calls Try.prog 22 #[.agg #[.int .i64 a, .int .i64 b, .int .i64 c, .int .i64 d]] w fun e w' => e = .returned (.tuple #[.slice none 0 0, .slice none 0 0, .bool false]) ∧ Below w.heap.size w w' := by
  obtain ⟨l, hl⟩ : ∃ l, min (min (min a b) c) d = l := ⟨_, rfl⟩
  obtain ⟨g, hg⟩ : ∃ g, max (max (max a b) c) d = g := ⟨_, rfl⟩
  have hlg : l < 1 ∨ 16 < g := by unfold ok4 at h; omega
  have MI := Lib.hid (fun bl w h => min4_any a b c d l hl bl w h)
  have MA := Lib.hid (fun bl w h => max4_any a b c d g hg bl w h)
  clear h hl hg
  by_cases h1 : l < 1
  · clear hlg
    go_enter Try.func22, Try.ntmps22
    go_wp2_with (go_at_call 33; ((with_reducible refine (MI.out _ _ (by (repeat (first | (with_reducible assumption) | (focus ((with_reducible refine new_at ?_ _ _); (repeat (first | (with_reducible rfl) | (with_reducible refine sz1 ?_))); done)) | (with_reducible refine blk_alloc (by simp) _ ?_) | (with_reducible refine blk_drew ?_))))).mono ?_); rintro e w1 ⟨rfl, rfl⟩))
    go_returns
    exact ⟨by simp, by (repeat' (first | (with_reducible exact Below.refl _ _) | (with_reducible refine bstep (by with_reducible assumption) ?_) | (with_reducible refine Below.alloc ?_ ?_ _) | (with_reducible refine Below.drew ?_) | (with_reducible refine below_drewN ?_ _) | (with_reducible refine Below.setCell ?_ ?_ _) | go_size))⟩
  · have h2 : 16 < g := by omega
    clear hlg
    go_enter Try.func22, Try.ntmps22
    go_wp2_with (first
      | (go_at_call 33; ((with_reducible refine (MI.out _ _ (by (repeat (first | (with_reducible assumption) | (focus ((with_reducible refine new_at ?_ _ _); (repeat (first | (with_reducible rfl) | (with_reducible refine sz1 ?_))); done)) | (with_reducible refine blk_alloc (by simp) _ ?_) | (with_reducible refine blk_drew ?_))))).mono ?_); rintro e w1 ⟨rfl, rfl⟩))
      | (go_at_call 34; ((with_reducible refine (MA.out _ _ (by (repeat (first | (with_reducible assumption) | (focus ((with_reducible refine new_at ?_ _ _); (repeat (first | (with_reducible rfl) | (with_reducible refine sz1 ?_))); done)) | (with_reducible refine blk_alloc (by simp) _ ?_) | (with_reducible refine blk_drew ?_))))).mono ?_); rintro e w1 ⟨rfl, rfl⟩)))
    go_returns
    exact ⟨by simp, by (repeat' (first | (with_reducible exact Below.refl _ _) | (with_reducible refine bstep (by with_reducible assumption) ?_) | (with_reducible refine Below.alloc ?_ ?_ _) | (with_reducible refine Below.drew ?_) | (with_reducible refine below_drewN ?_ _) | (with_reducible refine Below.setCell ?_ ?_ _) | go_size))⟩
/-- The weaver as it is made: nothing laid yet. -/
theorem wv_new (R : Rt) (w : World) (o : Obj) (ho : w.heap.size + 1 = (w.alloc o).heap.size) :
    Wv (((w.alloc o).alloc (.map #[] 0)).alloc (.cells (#[.int .i64 (R.r0 : Int), .int .i64 (R.r1 : Int), .int .i64 (R.r2 : Int), .int .i64 (R.r3 : Int), .int .i64 (R.m : Int), .slice none 0 0, .map (some (w.heap.size + 1)), .slice none 0 0] : Array Value) 67)) w.heap.size (w.heap.size + 1 + 1) R 0 [] := by
  have e2 : ((w.alloc o).alloc (.map #[] 0)).heap.size = w.heap.size + 2 := by rw [World.size_alloc, World.size_alloc]
  refine ⟨.slice none 0 0, .slice none 0 0, w.heap.size + 1, .map [], ?_⟩
  exact
    { cells := new_at e2 (#[.int .i64 (R.r0 : Int), .int .i64 (R.r1 : Int), .int .i64 (R.r2 : Int), .int .i64 (R.r3 : Int), .int .i64 (R.m : Int), .slice none 0 0, .map (some (w.heap.size + 1)), .slice none 0 0] : Array Value) _
      fro := fro_new e2 _ _
      hBb := by omega
      hBm := by omega
      nbm := by omega
      sps := World.ownsRow_nil _ _ _ _
      map := World.ownsMap.alloc (by rw [ho]; exact World.ownsMap_made (w.alloc o) Try.prog _ _) _
      holds := holds_0 R _
      trs := World.ownsRow_nil _ _ _ _
      nsb := by simp [Value.ownBlock]
      ntb := by simp [Value.ownBlock] }
theorem tri_012 (B b : Nat) (R : Rt) (n : Nat) (w : World) (h : Wv w B b R n []) :
    Calls Try.prog 36 #[.pointer (some ⟨b, 0, none⟩), .int .i64 0, .int .i64 1, .int .i64 2] w fun e w' => e = .returned (.tuple #[]) ∧ Wv w' B b R n [(0, 1, 2)] ∧ Below B w w' := tri_any B b R 0 1 2 n [] (by simp) w h
theorem tri_023 (B b : Nat) (R : Rt) (n : Nat) (w : World) (h : Wv w B b R n [(0, 1, 2)]) :
    Calls Try.prog 36 #[.pointer (some ⟨b, 0, none⟩), .int .i64 0, .int .i64 2, .int .i64 3] w fun e w' => e = .returned (.tuple #[]) ∧ Wv w' B b R n [(0, 1, 2), (0, 2, 3)] ∧ Below B w w' := tri_any B b R 0 2 3 n [(0, 1, 2)] (by simp) w h
theorem tris_le (R : Rt) (hR : R.ok) : ∀ j, j ≤ 4 → (midN R (R.m - 2) ++ (List.range j).flatMap (stripN R)).length ≤ 1000 := by
  have hm := Rt.ok_m hR
  have h1 : (midN R (R.m - 2)).length ≤ 16 * 32 := by rw [midN_len]; exact Nat.mul_le_mul (by omega) (by omega)
  intro j hj
  rw [List.length_append]
  have h2 : ((List.range j).flatMap (stripN R)).length ≤ j * 32 := by
    clear hj
    induction j with
    | zero => simp
    | succ j ih =>
      rw [List.range_succ, List.flatMap_append, List.length_append]
      have e : (List.flatMap (stripN R) [j]).length = R.r j + (R.m - 2) := by simp [stripN, stripF_len]
      have := Rt.ok_r hR j
      omega
  omega
def WvOut (R : Rt) (w : World) (e : Ending) (w' : World) : Prop := ∃ p c q d, e = .returned (.tuple #[.slice p (spotsN R).length c, .slice q (trisN R).length d, .bool true]) ∧ Sps w' w.heap.size (.slice p (spotsN R).length c) (spotsN R).length (spotsN R) ∧ Trs w' w.heap.size (.slice q (trisN R).length d) (trisN R).length (trisN R) ∧ Below w.heap.size w w'
def WlRel (B b : Nat) (R : Rt) (w : World) (k : Nat) (i : Value) (wr : World) : Prop := ∃ j, j ≤ 4 ∧ k = 4 - j ∧ i = .int .i64 (j : Int) ∧ Wv wr B b R (spotsN R).length (midN R (R.m - 2) ++ (List.range j).flatMap (stripN R)) ∧ Below B w wr
set_option maxHeartbeats 4000000 in
theorem weave_yes (R : Rt) (hR : R.ok) (w : World) :
    Calls Try.prog 22 #[.agg #[.int .i64 (R.r0 : Int), .int .i64 (R.r1 : Int), .int .i64 (R.r2 : Int), .int .i64 (R.r3 : Int)]] w (WvOut R w) := by
  have hm := Rt.ok_m hR
  have hr0 := Rt.ok_r hR 0
  have hr1 := Rt.ok_r hR 1
  have hr2 := Rt.ok_r hR 2
  have hr3 := Rt.ok_r hR 3
  simp only [Rt.r] at hr0 hr1 hr2 hr3
  obtain ⟨l, hl⟩ : ∃ l : Int, min (min (min (R.r0 : Int) (R.r1 : Int)) (R.r2 : Int)) (R.r3 : Int) = l := ⟨_, rfl⟩
  have hg : max (max (max (R.r0 : Int) (R.r1 : Int)) (R.r2 : Int)) (R.r3 : Int) = (R.m : Int) := by unfold Rt.m; omega
  have hl1 : ¬ l < 1 := by omega
  have hg1 : ¬ (16 : Int) < (R.m : Int) := by omega
  have MI := Lib.hid (fun bl w h => min4_any _ _ _ _ l hl bl w h)
  have MA := Lib.hid (fun bl w h => max4_any _ _ _ _ _ hg bl w h)
  have HR := Lib.hid hR
  have hmm := @run_makeMap Try.prog
  clear hl hg hr0 hr1 hr2 hr3 hR
  go_enter Try.func22, Try.ntmps22
  go_wp2_with (first
    | (go_at_call 33; ((with_reducible refine (MI.out _ _ (by (repeat (first | (with_reducible assumption) | (focus ((with_reducible refine new_at ?_ _ _); (repeat (first | (with_reducible rfl) | (with_reducible refine sz1 ?_))); done)) | (with_reducible refine blk_alloc (by simp) _ ?_) | (with_reducible refine blk_drew ?_))))).mono ?_); rintro e w1 ⟨rfl, rfl⟩))
    | (go_at_call 34; ((with_reducible refine (MA.out _ _ (by (repeat (first | (with_reducible assumption) | (focus ((with_reducible refine new_at ?_ _ _); (repeat (first | (with_reducible rfl) | (with_reducible refine sz1 ?_))); done)) | (with_reducible refine blk_alloc (by simp) _ ?_) | (with_reducible refine blk_drew ?_))))).mono ?_); rintro e w1 ⟨rfl, rfl⟩)))
  refine wp_region_held_drew (S := (fun w' => ∀ o, w'.cell? ⟨w.heap.size, o, none⟩ = (#[.int .i64 (R.r0 : Int), .int .i64 (R.r1 : Int), .int .i64 (R.r2 : Int), .int .i64 (R.r3 : Int)] : Array Value)[o]?)) (by kernel_rfl) ?_ (fun hHeld => ?_)
  · (try dsimp only); (exact new_at rfl _ _)
  refine wpAnyH_take (i := 0) (oi := { dst := some 15, op := Go.Op.load 44 (Go.Operand.tmp 1), type := 44, pos := "weave.go:99", after := #[], guard := none }) (v := ?_) rfl (by kernel_rfl) (by kernel_rfl) (by kernel_rfl) (fun _ _ _ h => h) (Or.inl ⟨by rfl, ?_⟩) (by assumption) ?_
  rotate_left
  · intro w hSw; (try dsimp only at hSw); go_simp; (try with_reducible rfl)
  try simp only [Act.put, List.setIfInBounds_toArray, List.set_cons_zero, List.set_cons_succ]
  refine wpAnyH_take (i := 1) (oi := { dst := some 16, op := Go.Op.slice 44 (Go.Operand.tmp 1) none none none, type := 26, pos := "weave.go:99", after := #[], guard := none }) (v := ?_) rfl (by kernel_rfl) (by kernel_rfl) (by kernel_rfl) (fun _ _ _ h => h) (Or.inl ⟨by rfl, ?_⟩) (by assumption) ?_
  rotate_left
  · intro w hSw; (try dsimp only at hSw); go_simp; (try with_reducible rfl)
  try simp only [Act.put, List.setIfInBounds_toArray, List.set_cons_zero, List.set_cons_succ]
  refine wpAnyH_ready (rs := [2, 3]) (by kernel_rfl) (by simp) ?_
  refine AllReadyH.cons (o := { dst := some 17, op := Go.Op.call { callee := Go.Callee.value (Go.Operand.func 34), args := #[Go.Operand.tmp 16], argTypes := #[26] }, type := 3, pos := "weave.go:99", after := #[{ on := 1, ground := Go.Ground.data }], guard := none }) rfl (fun K hK => ?_) ?_
  · go_simp
    (go_at_call 34; ((with_reducible refine (MA.out _ _ hHeld).mono ?_); rintro e w1 ⟨rfl, rfl⟩))
    refine hK.out _ _ ?_ (fun hHeld2 => ?_)
    · (try dsimp only); (exact hHeld)
    clear hK K hHeld
    try simp only [Act.put, List.setIfInBounds_toArray, List.set_cons_zero, List.set_cons_succ]
    refine wpAnyH_ready (rs := [3]) (by kernel_rfl) (by simp) ?_
    refine AllReadyH.cons (o := { dst := some 18, op := Go.Op.makeMap 65 none, type := 65, pos := "weave.go:99", after := #[], guard := none }) rfl (fun K hK => ?_) AllReadyH.nil
    go_simp
    skip
    refine hK.out _ _ ?_ (fun hHeld3 => ?_)
    · (try dsimp only); (exact blk_alloc (by simp) _ hHeld2)
    clear hK K hHeld2
    try simp only [Act.put, List.setIfInBounds_toArray, List.set_cons_zero, List.set_cons_succ]
    refine wpAnyH_take (i := 4) (oi := { dst := some 19, op := Go.Op.build 67 #[(0, Go.Operand.tmp 15), (1, Go.Operand.tmp 17), (3, Go.Operand.tmp 18)], type := 67, pos := "weave.go:99", after := #[{ on := 0, ground := Go.Ground.data }, { on := 2, ground := Go.Ground.data }, { on := 3, ground := Go.Ground.data }], guard := none }) (v := ?_) rfl (by kernel_rfl) (by kernel_rfl) (by kernel_rfl) (fun _ _ _ h => h) (Or.inl ⟨by rfl, ?_⟩) (by assumption) ?_
    rotate_left
    · intro w hSw; (try dsimp only at hSw); go_simp; (try with_reducible rfl)
    try simp only [Act.put, List.setIfInBounds_toArray, List.set_cons_zero, List.set_cons_succ]
    refine wpAnyH_ready (rs := [5]) (by kernel_rfl) (by simp) ?_
    refine AllReadyH.cons (o := { dst := some 20, op := Go.Op.box 67 (Go.Operand.tmp 19), type := 64, pos := "weave.go:99", after := #[{ on := 4, ground := Go.Ground.data }], guard := none }) rfl (fun K hK => ?_) AllReadyH.nil
    go_simp
    skip
    refine hK.out _ _ ?_ (fun hHeld5 => ?_)
    · (try dsimp only); (exact blk_alloc (by simp) _ hHeld3)
    clear hK K hHeld3
    try simp only [Act.put, List.setIfInBounds_toArray, List.set_cons_zero, List.set_cons_succ]
    refine wpAnyH_take (i := 6) (oi := { dst := some 5, op := Go.Op.assign (Go.Operand.tmp 20), type := 64, pos := "weave.go:99", after := #[{ on := 5, ground := Go.Ground.data }, { on := 2, ground := Go.Ground.chain }, { on := 0, ground := Go.Ground.phase }, { on := 1, ground := Go.Ground.phase }, { on := 2, ground := Go.Ground.phase }, { on := 3, ground := Go.Ground.phase }, { on := 4, ground := Go.Ground.phase }, { on := 5, ground := Go.Ground.phase }], guard := none }) (v := ?_) rfl (by kernel_rfl) (by kernel_rfl) (by kernel_rfl) (fun _ _ _ h => h) (Or.inl ⟨by rfl, ?_⟩) (by assumption) ?_
    rotate_left
    · intro w hSw; (try dsimp only at hSw); go_simp; (try with_reducible rfl)
    try simp only [Act.put, List.setIfInBounds_toArray, List.set_cons_zero, List.set_cons_succ]
    refine wpAnyH_done (by kernel_rfl) ?_ _
    have BEG := Lib.hid (fun W' hb => lay_any w.heap.size (w.heap.size + 1 + 1) R HR.out [] W' (wv_step (wv_new R w (.cells (#[.int .i64 (R.r0 : Int), .int .i64 (R.r1 : Int), .int .i64 (R.r2 : Int), .int .i64 (R.r3 : Int)] : Array Value) 44) (by rw [World.size_alloc])) hb))
    have BEB := Lib.hid (show Below w.heap.size w (((w.alloc (.cells (#[.int .i64 (R.r0 : Int), .int .i64 (R.r1 : Int), .int .i64 (R.r2 : Int), .int .i64 (R.r3 : Int)] : Array Value) 44)).alloc (.map #[] 0)).alloc (.cells (#[.int .i64 (R.r0 : Int), .int .i64 (R.r1 : Int), .int .i64 (R.r2 : Int), .int .i64 (R.r3 : Int), .int .i64 (R.m : Int), .slice none 0 0, .map (some (w.heap.size + 1)), .slice none 0 0] : Array Value) 67)) from by (repeat' (first | (with_reducible exact Below.refl _ _) | (with_reducible refine bstep (by with_reducible assumption) ?_) | (with_reducible refine Below.alloc ?_ ?_ _) | (with_reducible refine Below.drew ?_) | (with_reducible refine below_drewN ?_ _) | (with_reducible refine Below.setCell ?_ ?_ _) | go_size)))
    clear hHeld5
    by_cases h1 : R.m = 1
    · have HZ := Lib.hid (show (R.m : Int) = 1 by omega)
      have HT := Lib.hid (show trisN R = [(0, 1, 2), (0, 2, 3)] by rw [trisN, if_pos h1])
      clear h1
      go_wp2_with (first
        | (go_at_call 35; ((with_reducible refine (BEG.out _ (by (repeat' (first | (with_reducible exact Below.refl _ _) | (with_reducible refine bstep (by with_reducible assumption) ?_) | (with_reducible refine Below.alloc ?_ ?_ _) | (with_reducible refine Below.drew ?_) | (with_reducible refine below_drewN ?_ _) | (with_reducible refine Below.setCell ?_ ?_ _) | go_size)))).mono ?_); rintro e w2 ⟨rfl, hW2, hB2⟩; have HW2 := Lib.hid hW2; have HB2 := Lib.hid ((BEB.out.drew).trans hB2); have c42 := wv_most hW2; rw [HZ.out] at c42; clear hW2 hB2))
        | (go_at_call 36; ((with_reducible refine (tri_012 _ _ R _ _ HW2.out).mono ?_); rintro e w3 ⟨rfl, hW3, hB3⟩; have HW3 := Lib.hid hW3; have HB3 := Lib.hid (HB2.out.trans hB3); clear hW3 hB3))
        | (go_at_call 36; ((with_reducible refine (tri_023 _ _ R _ _ HW3.out).mono ?_); rintro e w4 ⟨rfl, hW4, hB4⟩; have HW4 := Lib.hid hW4; have HB4 := Lib.hid (HB3.out.trans hB4); clear hW4 hB4)))
      obtain ⟨sp, tp, bm, DD, hh⟩ := HW4.out
      obtain ⟨p, c, rfl⟩ := row_shape hh.sps
      obtain ⟨q, d, rfl⟩ := row_shape hh.trs
      have c5 : w4.cell? ⟨w.heap.size + 1 + 1, 5, none⟩ = some (.slice p (spotsN R).length c) := hh.cells 5
      have c7 : w4.cell? ⟨w.heap.size + 1 + 1, 7, none⟩ = some (.slice q 2 d) := hh.cells 7
      have HHH := Lib.hid hh
      clear hh
      go_quiet (fail)
      go_wp2_with fail
      go_returns
      exact ⟨p, c, q, d, by rw [HT.out]; simp, by have h := HHH.out.sps; rw [List.take_length] at h; exact h, by rw [HT.out]; exact HHH.out.trs, below_drewN HB4.out _⟩
    · have z1 : ((R.m : Int) == 1) = false := beq_eq_false_iff_ne.mpr (by omega)
      have z2 : ¬ (R.m : Int) = 1 := by omega
      have HT := Lib.hid (show trisN R = midN R (R.m - 2) ++ (List.range 4).flatMap (stripN R) by rw [trisN, if_neg h1])
      have hm2 : 2 ≤ R.m := by omega
      clear h1
      go_wp2_with (first
        | (go_at_call 35; ((with_reducible refine (BEG.out _ (by (repeat' (first | (with_reducible exact Below.refl _ _) | (with_reducible refine bstep (by with_reducible assumption) ?_) | (with_reducible refine Below.alloc ?_ ?_ _) | (with_reducible refine Below.drew ?_) | (with_reducible refine below_drewN ?_ _) | (with_reducible refine Below.setCell ?_ ?_ _) | go_size)))).mono ?_); rintro e w2 ⟨rfl, hW2, hB2⟩; have HW2 := Lib.hid hW2; have HB2 := Lib.hid ((BEB.out.drew).trans hB2); have c42 := wv_most hW2; clear hW2 hB2))
        | (go_at_call 37; ((with_reducible refine (middle_any _ _ R HR.out hm2 _ HW2.out).mono ?_); rintro e w3 ⟨rfl, hW3, hB3⟩; have HW3 := Lib.hid hW3; have HB3 := Lib.hid (HB2.out.trans hB3); clear hW3 hB3)))
      go_loopg [42] 4 (fun k i wr => WlRel w.heap.size (w.heap.size + 1 + 1) R w k i wr)
      case atStart => exact ⟨0, by omega, rfl, rfl, by simpa using HW3.out, HB3.out⟩
      case round =>
        obtain ⟨j, hj, rfl, rfl, hW, hB⟩ := hrel
        have HW := Lib.hid hW
        have HB := Lib.hid hB
        have HL := Lib.hid (tris_le R HR.out j hj)
        clear hW hB
        by_cases hlt : j < 4
        · have hj1 : (j : Int) < 4 := by omega
          go_wp2_with (go_at_call 38; ((with_reducible refine (strip_any _ _ R HR.out hm2 j hlt _ (Nat.le_trans HL.out (by decide)) _ HW.out).mono ?_); rintro e w4 ⟨rfl, hW4, hB4⟩; have HW4 := Lib.hid hW4; have HB4 := Lib.hid (HB.out.trans hB4); clear hW4 hB4))
          go_roundg (4 - (j + 1))
          case measure => omega
          case rel => exact ⟨j + 1, by omega, rfl, by simp, by have h := HW4.out; rw [List.range_succ, List.flatMap_append, ← List.append_assoc]; simpa using h, HB4.out⟩
        · obtain rfl : j = 4 := by omega
          have HX := Lib.hid (show Wv wr w.heap.size (w.heap.size + 1 + 1) R (spotsN R).length (trisN R) from by rw [HT.out]; exact HW.out)
          obtain ⟨sp, tp, bm, DD, hh⟩ := HX.out
          obtain ⟨p, c, rfl⟩ := row_shape hh.sps
          obtain ⟨q, d, rfl⟩ := row_shape hh.trs
          have c5 : wr.cell? ⟨w.heap.size + 1 + 1, 5, none⟩ = some (.slice p (spotsN R).length c) := hh.cells 5
          have c7 : wr.cell? ⟨w.heap.size + 1 + 1, 7, none⟩ = some (.slice q (trisN R).length d) := hh.cells 7
          have HHH := Lib.hid hh
          clear hh
          go_wp2_with fail
          go_quiet (fail)
          go_wp2_with fail
          go_returns
          exact ⟨p, c, q, d, by simp, by have h := HHH.out.sps; rw [List.take_length] at h; exact h, HHH.out.trs, below_drewN HB.out _⟩
  refine AllReadyH.cons (o := { dst := some 18, op := Go.Op.makeMap 65 none, type := 65, pos := "weave.go:99", after := #[], guard := none }) rfl (fun K hK => ?_) ?_
  · go_simp
    skip
    refine hK.out _ _ ?_ (fun hHeld3 => ?_)
    · (try dsimp only); (exact blk_alloc (by simp) _ hHeld)
    clear hK K hHeld
    try simp only [Act.put, List.setIfInBounds_toArray, List.set_cons_zero, List.set_cons_succ]
    refine wpAnyH_ready (rs := [2]) (by kernel_rfl) (by simp) ?_
    refine AllReadyH.cons (o := { dst := some 17, op := Go.Op.call { callee := Go.Callee.value (Go.Operand.func 34), args := #[Go.Operand.tmp 16], argTypes := #[26] }, type := 3, pos := "weave.go:99", after := #[{ on := 1, ground := Go.Ground.data }], guard := none }) rfl (fun K hK => ?_) AllReadyH.nil
    go_simp
    (go_at_call 34; ((with_reducible refine (MA.out _ _ hHeld3).mono ?_); rintro e w1 ⟨rfl, rfl⟩))
    refine hK.out _ _ ?_ (fun hHeld2 => ?_)
    · (try dsimp only); (exact hHeld3)
    clear hK K hHeld3
    try simp only [Act.put, List.setIfInBounds_toArray, List.set_cons_zero, List.set_cons_succ]
    refine wpAnyH_take (i := 4) (oi := { dst := some 19, op := Go.Op.build 67 #[(0, Go.Operand.tmp 15), (1, Go.Operand.tmp 17), (3, Go.Operand.tmp 18)], type := 67, pos := "weave.go:99", after := #[{ on := 0, ground := Go.Ground.data }, { on := 2, ground := Go.Ground.data }, { on := 3, ground := Go.Ground.data }], guard := none }) (v := ?_) rfl (by kernel_rfl) (by kernel_rfl) (by kernel_rfl) (fun _ _ _ h => h) (Or.inl ⟨by rfl, ?_⟩) (by assumption) ?_
    rotate_left
    · intro w hSw; (try dsimp only at hSw); go_simp; (try with_reducible rfl)
    try simp only [Act.put, List.setIfInBounds_toArray, List.set_cons_zero, List.set_cons_succ]
    refine wpAnyH_ready (rs := [5]) (by kernel_rfl) (by simp) ?_
    refine AllReadyH.cons (o := { dst := some 20, op := Go.Op.box 67 (Go.Operand.tmp 19), type := 64, pos := "weave.go:99", after := #[{ on := 4, ground := Go.Ground.data }], guard := none }) rfl (fun K hK => ?_) AllReadyH.nil
    go_simp
    skip
    refine hK.out _ _ ?_ (fun hHeld5 => ?_)
    · (try dsimp only); (exact blk_alloc (by simp) _ hHeld2)
    clear hK K hHeld2
    try simp only [Act.put, List.setIfInBounds_toArray, List.set_cons_zero, List.set_cons_succ]
    refine wpAnyH_take (i := 6) (oi := { dst := some 5, op := Go.Op.assign (Go.Operand.tmp 20), type := 64, pos := "weave.go:99", after := #[{ on := 5, ground := Go.Ground.data }, { on := 2, ground := Go.Ground.chain }, { on := 0, ground := Go.Ground.phase }, { on := 1, ground := Go.Ground.phase }, { on := 2, ground := Go.Ground.phase }, { on := 3, ground := Go.Ground.phase }, { on := 4, ground := Go.Ground.phase }, { on := 5, ground := Go.Ground.phase }], guard := none }) (v := ?_) rfl (by kernel_rfl) (by kernel_rfl) (by kernel_rfl) (fun _ _ _ h => h) (Or.inl ⟨by rfl, ?_⟩) (by assumption) ?_
    rotate_left
    · intro w hSw; (try dsimp only at hSw); go_simp; (try with_reducible rfl)
    try simp only [Act.put, List.setIfInBounds_toArray, List.set_cons_zero, List.set_cons_succ]
    refine wpAnyH_done (by kernel_rfl) ?_ _
    have BEG := Lib.hid (fun W' hb => lay_any w.heap.size (w.heap.size + 1 + 1) R HR.out [] W' (wv_step (wv_new R w (.cells (#[.int .i64 (R.r0 : Int), .int .i64 (R.r1 : Int), .int .i64 (R.r2 : Int), .int .i64 (R.r3 : Int)] : Array Value) 44) (by rw [World.size_alloc])) hb))
    have BEB := Lib.hid (show Below w.heap.size w (((w.alloc (.cells (#[.int .i64 (R.r0 : Int), .int .i64 (R.r1 : Int), .int .i64 (R.r2 : Int), .int .i64 (R.r3 : Int)] : Array Value) 44)).alloc (.map #[] 0)).alloc (.cells (#[.int .i64 (R.r0 : Int), .int .i64 (R.r1 : Int), .int .i64 (R.r2 : Int), .int .i64 (R.r3 : Int), .int .i64 (R.m : Int), .slice none 0 0, .map (some (w.heap.size + 1)), .slice none 0 0] : Array Value) 67)) from by (repeat' (first | (with_reducible exact Below.refl _ _) | (with_reducible refine bstep (by with_reducible assumption) ?_) | (with_reducible refine Below.alloc ?_ ?_ _) | (with_reducible refine Below.drew ?_) | (with_reducible refine below_drewN ?_ _) | (with_reducible refine Below.setCell ?_ ?_ _) | go_size)))
    clear hHeld5
    by_cases h1 : R.m = 1
    · have HZ := Lib.hid (show (R.m : Int) = 1 by omega)
      have HT := Lib.hid (show trisN R = [(0, 1, 2), (0, 2, 3)] by rw [trisN, if_pos h1])
      clear h1
      go_wp2_with (first
        | (go_at_call 35; ((with_reducible refine (BEG.out _ (by (repeat' (first | (with_reducible exact Below.refl _ _) | (with_reducible refine bstep (by with_reducible assumption) ?_) | (with_reducible refine Below.alloc ?_ ?_ _) | (with_reducible refine Below.drew ?_) | (with_reducible refine below_drewN ?_ _) | (with_reducible refine Below.setCell ?_ ?_ _) | go_size)))).mono ?_); rintro e w2 ⟨rfl, hW2, hB2⟩; have HW2 := Lib.hid hW2; have HB2 := Lib.hid ((BEB.out.drew).trans hB2); have c42 := wv_most hW2; rw [HZ.out] at c42; clear hW2 hB2))
        | (go_at_call 36; ((with_reducible refine (tri_012 _ _ R _ _ HW2.out).mono ?_); rintro e w3 ⟨rfl, hW3, hB3⟩; have HW3 := Lib.hid hW3; have HB3 := Lib.hid (HB2.out.trans hB3); clear hW3 hB3))
        | (go_at_call 36; ((with_reducible refine (tri_023 _ _ R _ _ HW3.out).mono ?_); rintro e w4 ⟨rfl, hW4, hB4⟩; have HW4 := Lib.hid hW4; have HB4 := Lib.hid (HB3.out.trans hB4); clear hW4 hB4)))
      obtain ⟨sp, tp, bm, DD, hh⟩ := HW4.out
      obtain ⟨p, c, rfl⟩ := row_shape hh.sps
      obtain ⟨q, d, rfl⟩ := row_shape hh.trs
      have c5 : w4.cell? ⟨w.heap.size + 1 + 1, 5, none⟩ = some (.slice p (spotsN R).length c) := hh.cells 5
      have c7 : w4.cell? ⟨w.heap.size + 1 + 1, 7, none⟩ = some (.slice q 2 d) := hh.cells 7
      have HHH := Lib.hid hh
      clear hh
      go_quiet (fail)
      go_wp2_with fail
      go_returns
      exact ⟨p, c, q, d, by rw [HT.out]; simp, by have h := HHH.out.sps; rw [List.take_length] at h; exact h, by rw [HT.out]; exact HHH.out.trs, below_drewN HB4.out _⟩
    · have z1 : ((R.m : Int) == 1) = false := beq_eq_false_iff_ne.mpr (by omega)
      have z2 : ¬ (R.m : Int) = 1 := by omega
      have HT := Lib.hid (show trisN R = midN R (R.m - 2) ++ (List.range 4).flatMap (stripN R) by rw [trisN, if_neg h1])
      have hm2 : 2 ≤ R.m := by omega
      clear h1
      go_wp2_with (first
        | (go_at_call 35; ((with_reducible refine (BEG.out _ (by (repeat' (first | (with_reducible exact Below.refl _ _) | (with_reducible refine bstep (by with_reducible assumption) ?_) | (with_reducible refine Below.alloc ?_ ?_ _) | (with_reducible refine Below.drew ?_) | (with_reducible refine below_drewN ?_ _) | (with_reducible refine Below.setCell ?_ ?_ _) | go_size)))).mono ?_); rintro e w2 ⟨rfl, hW2, hB2⟩; have HW2 := Lib.hid hW2; have HB2 := Lib.hid ((BEB.out.drew).trans hB2); have c42 := wv_most hW2; clear hW2 hB2))
        | (go_at_call 37; ((with_reducible refine (middle_any _ _ R HR.out hm2 _ HW2.out).mono ?_); rintro e w3 ⟨rfl, hW3, hB3⟩; have HW3 := Lib.hid hW3; have HB3 := Lib.hid (HB2.out.trans hB3); clear hW3 hB3)))
      go_loopg [42] 4 (fun k i wr => WlRel w.heap.size (w.heap.size + 1 + 1) R w k i wr)
      case atStart => exact ⟨0, by omega, rfl, rfl, by simpa using HW3.out, HB3.out⟩
      case round =>
        obtain ⟨j, hj, rfl, rfl, hW, hB⟩ := hrel
        have HW := Lib.hid hW
        have HB := Lib.hid hB
        have HL := Lib.hid (tris_le R HR.out j hj)
        clear hW hB
        by_cases hlt : j < 4
        · have hj1 : (j : Int) < 4 := by omega
          go_wp2_with (go_at_call 38; ((with_reducible refine (strip_any _ _ R HR.out hm2 j hlt _ (Nat.le_trans HL.out (by decide)) _ HW.out).mono ?_); rintro e w4 ⟨rfl, hW4, hB4⟩; have HW4 := Lib.hid hW4; have HB4 := Lib.hid (HB.out.trans hB4); clear hW4 hB4))
          go_roundg (4 - (j + 1))
          case measure => omega
          case rel => exact ⟨j + 1, by omega, rfl, by simp, by have h := HW4.out; rw [List.range_succ, List.flatMap_append, ← List.append_assoc]; simpa using h, HB4.out⟩
        · obtain rfl : j = 4 := by omega
          have HX := Lib.hid (show Wv wr w.heap.size (w.heap.size + 1 + 1) R (spotsN R).length (trisN R) from by rw [HT.out]; exact HW.out)
          obtain ⟨sp, tp, bm, DD, hh⟩ := HX.out
          obtain ⟨p, c, rfl⟩ := row_shape hh.sps
          obtain ⟨q, d, rfl⟩ := row_shape hh.trs
          have c5 : wr.cell? ⟨w.heap.size + 1 + 1, 5, none⟩ = some (.slice p (spotsN R).length c) := hh.cells 5
          have c7 : wr.cell? ⟨w.heap.size + 1 + 1, 7, none⟩ = some (.slice q (trisN R).length d) := hh.cells 7
          have HHH := Lib.hid hh
          clear hh
          go_wp2_with fail
          go_quiet (fail)
          go_wp2_with fail
          go_returns
          exact ⟨p, c, q, d, by simp, by have h := HHH.out.sps; rw [List.take_length] at h; exact h, HHH.out.trs, below_drewN HB.out _⟩
  exact AllReadyH.nil
end Go.Proofs.Ytoalihdempcbjaa
