/- The law on weave's tightness, walked: for all rates of 64 bits it answers true. -/
import Derived.Test.YtoalihdempcbjaaTightW
import Derived.Test.YtoalihdempcbjaaTightP
namespace Go.Proofs.Ytoalihdempcbjaa
open Go.RowKit
set_option maxRecDepth 100000
set_option linter.unusedSimpArgs false
set_option linter.unusedVariables false
set_option maxHeartbeats 2000000 in
theorem tight_no (a b c d : Int) (h : ¬ ok4 a b c d) (w : World) : Calls Try.prog 8 #[.agg #[.int .i64 a, .int .i64 b, .int .i64 c, .int .i64 d]] w fun e w' => e = .returned (.bool true) ∧ Below w.heap.size w w' := by
  have WN := Lib.hid (fun w => weave_no a b c d h w)
  clear h
  go_enter Try.func8, Try.ntmps8
  go_wp2_with (first
    | (go_at_call 21; ((with_reducible refine (alive13_any _).mono ?_); rintro e w1 ⟨rfl, hb1⟩; have C1 : ∀ o, w1.cell? ⟨w.heap.size, o, none⟩ = (#[.int .i64 a, .int .i64 b, .int .i64 c, .int .i64 d] : Array Value)[o]? := blk_later (by simp) hb1 (by (repeat (first | (with_reducible assumption) | (focus ((with_reducible refine new_at ?_ _ _); (repeat (first | (with_reducible rfl) | (with_reducible refine sz1 ?_))); done)) | (with_reducible refine blk_alloc (by simp) _ ?_) | (with_reducible refine blk_drew ?_))))))
    | (go_at_call 22; ((with_reducible refine (WN.out _).mono ?_); rintro e w2 ⟨rfl, hb2⟩)))
  go_returns
  exact ⟨by simp, by (repeat' (first | (with_reducible exact Below.refl _ _) | (with_reducible refine bstep (by with_reducible assumption) ?_) | (with_reducible refine Below.alloc ?_ ?_ _) | (with_reducible refine Below.drew ?_) | (with_reducible refine below_drewN ?_ _) | (with_reducible refine Below.setCell ?_ ?_ _) | go_size))⟩
def TjRel (R : Rt) (E : List E2) (M N bm gu : Nat) (w2 : World) (k : Nat) (i : Value) (wr : World) : Prop := ∃ j, j ≤ M ∧ k = M - j ∧ i = .int .i64 (j : Int) ∧ TgW w2.heap.size bm gu N w2 (edL R E (3 * j)) wr
def TkRel (R : Rt) (E : List E2) (j N bm gu : Nat) (w2 : World) (k : Nat) (i : Value) (wr : World) : Prop := ∃ q, q ≤ 3 ∧ k = 3 - q ∧ i = .int .i64 (q : Int) ∧ TgW w2.heap.size bm gu N w2 (edL R E (3 * j + q)) wr
/-- What the cells of an owned list of threes hold, by place. -/
theorem tri_cells {w : World} {g : Nat} {l : List T3} (hc : ∀ j (hj : j < l.length), w.cell? ⟨g, j * 3, none⟩ = some (.int .i64 (l[j].1 : Int)) ∧ w.cell? ⟨g, j * 3 + 1, none⟩ = some (.int .i64 (l[j].2.1 : Int)) ∧ w.cell? ⟨g, j * 3 + 2, none⟩ = some (.int .i64 (l[j].2.2 : Int))) (j : Nat) (hj : j < l.length) (q : Nat) (hq : q < 3) : w.cell? ⟨g, j * 3 + q, none⟩ = some (.int .i64 (tq l[j] q : Int)) := by
  obtain ⟨a, b, c⟩ := hc j hj
  match q, hq with
  | 0, _ => exact a
  | 1, _ => exact b
  | 2, _ => exact c
/-- What the later loops need. -/
structure TsW (bm gu N : Nat) (w2 : World) (L : List (Nat × Nat)) (wr : World) : Prop where
  map : ∃ D, wr.ownsMap Try.prog 55 (plainElem Try.prog 3) bm L.length D ∧ HoldsE L D
  used : ∀ o, o < N → wr.cell? ⟨gu, o, none⟩ = some (.bool (L.any fun e => e.1 == o))
  low : Below w2.heap.size w2 wr
theorem ts_of {B bm gu N : Nat} {w2 wr : World} {L : List (Nat × Nat)} (hB : B = w2.heap.size) (h : TgW B bm gu N w2 L wr) : TsW bm gu N w2 L wr := by subst hB; exact ⟨h.map, h.used, h.low⟩
theorem ts_below {bm gu N : Nat} {w2 wr w' : World} {L : List (Nat × Nat)} (h : TsW bm gu N w2 L wr) (hb : Below wr.heap.size wr w') : TsW bm gu N w2 L w' := by
  obtain ⟨D, hm, hD⟩ := h.map
  exact ⟨⟨D, hm.kept (below_gb hb) (by simp), hD⟩, fun o ho => (hb.cell (p := ⟨gu, o, none⟩) (blk_sz1 (h.used o ho))).trans (h.used o ho), h.low.trans (hb.mono h.low.size)⟩
theorem ts_drew {bm gu N : Nat} {w2 wr : World} {L : List (Nat × Nat)} (h : TsW bm gu N w2 L wr) : TsW bm gu N w2 L wr.drew := ⟨h.map, h.used, h.low.drew⟩
theorem ts_drewN {bm gu N : Nat} {w2 wr : World} {L : List (Nat × Nat)} (h : TsW bm gu N w2 L wr) (n : Nat) : TsW bm gu N w2 L (wr.drewN n) := ⟨h.map, h.used, below_drewN h.low n⟩
theorem ts_look {bm gu N : Nat} {w2 wr : World} {L : List (Nat × Nat)} (h : TsW bm gu N w2 L wr) (a b : Nat) (ha : a < 1000000) (hb : b < 1000000) {c : Int} (hc : (if (a, b) ∈ L then 1 else 0) = c) :
    (Instr.lookup 53 (.map (some bm)) (.agg #[.int .i64 (a : Int), .int .i64 (b : Int)]) false).run Try.prog wr = .ok (.int .i64 c) wr := by
  obtain ⟨D, hm, hD⟩ := h.map
  obtain ⟨c', hrun, hat, _⟩ := hm.lookup_int law2 Try.underlying53 Try.underlying3 (zeroI _) (keyOf_2 a b ha hb)
  have : c' = if (a, b) ∈ L then 1 else 0 := lit_int (hat.symm.trans (hD a b ha hb))
  rw [← hc, ← this]
  exact hrun
def T2Rel (R : Rt) (E : List E2) (M N bm gu : Nat) (w2 : World) (k : Nat) (s i : Value) (wr : World) : Prop := ∃ j, j ≤ M ∧ k = M - j ∧ s = .int .i64 (cntA R E (3 * j) : Int) ∧ i = .int .i64 (j : Int) ∧ TsW bm gu N w2 (edL R E (3 * M)) wr
def T3Rel (R : Rt) (E : List E2) (M j N bm gu : Nat) (w2 : World) (k : Nat) (s i : Value) (wr : World) : Prop := ∃ q, q ≤ 3 ∧ k = 3 - q ∧ s = .int .i64 (cntA R E (3 * j + q) : Int) ∧ i = .int .i64 (q : Int) ∧ TsW bm gu N w2 (edL R E (3 * M)) wr
def T4Rel (R : Rt) (E : List E2) (M N bm gu : Nat) (w2 : World) (k : Nat) (i : Value) (wr : World) : Prop := ∃ j, j ≤ N ∧ k = N - j ∧ i = .int .i64 (j : Int) ∧ TsW bm gu N w2 (edL R E (3 * M)) wr
set_option maxHeartbeats 8000000 in
theorem tight_yes (R : Rt) (hR : R.ok) (w : World) : Calls Try.prog 8 #[.agg #[.int .i64 (R.r0 : Int), .int .i64 (R.r1 : Int), .int .i64 (R.r2 : Int), .int .i64 (R.r3 : Int)]] w fun e w' => e = .returned (.bool true) ∧ Below w.heap.size w w' := by
  have WY := Lib.hid (fun w => weave_yes R hR w)
  have AL := Lib.hid (fun x y w => along_any R hR x y w)
  have SC := Lib.hid (fun (N g : Nat) (w : World) (s : T3) => spot_cells hR (N := N) (g := g) (w := w) (s := s))
  obtain ⟨E, hE⟩ := tight_num R hR
  have HE := Lib.hid hE
  have NL := Lib.hid (fun s hs => nm_lt R hR s hs)
  obtain ⟨_, _, _, _, hM, hN, hS64⟩ := counts_good R hR
  obtain ⟨N, hN'⟩ : ∃ N, (spotsN R).length = N := ⟨_, rfl⟩
  obtain ⟨M, hM'⟩ : ∃ M, (trisN R).length = M := ⟨_, rfl⟩
  rw [hN'] at hN NL
  rw [hM'] at hM
  have WY := Lib.hid (fun w => (WY.out w).mono fun e w' h => (show ∃ p c q d, e = .returned (.tuple #[.slice p N c, .slice q M d, .bool true]) ∧ Sps w' w.heap.size (.slice p N c) N (spotsN R) ∧ Trs w' w.heap.size (.slice q M d) M (trisN R) ∧ Below w.heap.size w w' from by rw [← hN', ← hM']; exact h))
  have HN := Lib.hid hN'
  have HM := Lib.hid hM'
  have MK := mk_used N (by omega)
  have MM := @run_makeMap Try.prog
  have HS := Lib.hid (show sumR R = R.r0 + R.r1 + R.r2 + R.r3 from rfl)
  obtain ⟨r0, h0⟩ : ∃ r, R.r0 = r := ⟨_, rfl⟩
  obtain ⟨r1, h1⟩ : ∃ r, R.r1 = r := ⟨_, rfl⟩
  obtain ⟨r2, h2⟩ : ∃ r, R.r2 = r := ⟨_, rfl⟩
  obtain ⟨r3, h3⟩ : ∃ r, R.r3 = r := ⟨_, rfl⟩
  rw [h0, h1, h2, h3] at WY AL HS ⊢
  clear hE hN' hM' h0 h1 h2 h3
  go_enter Try.func8, Try.ntmps8
  go_wp2_with (first
    | (go_at_call 21; ((with_reducible refine (alive13_any _).mono ?_); rintro e w1 ⟨rfl, hb1⟩; have HB1 := Lib.hid ((by (repeat' (first | (with_reducible exact Below.refl _ _) | (with_reducible refine bstep (by with_reducible assumption) ?_) | (with_reducible refine Below.alloc ?_ ?_ _) | (with_reducible refine Below.drew ?_) | (with_reducible refine below_drewN ?_ _) | (with_reducible refine Below.setCell ?_ ?_ _) | go_size))) : Below w.heap.size w w1); have C1 : ∀ o, w1.cell? ⟨w.heap.size, o, none⟩ = (#[.int .i64 (r0 : Int), .int .i64 (r1 : Int), .int .i64 (r2 : Int), .int .i64 (r3 : Int)] : Array Value)[o]? := blk_later (by simp) hb1 (by (repeat (first | (with_reducible assumption) | (focus ((with_reducible refine new_at ?_ _ _); (repeat (first | (with_reducible rfl) | (with_reducible refine sz1 ?_))); done)) | (with_reducible refine blk_alloc (by simp) _ ?_) | (with_reducible refine blk_drew ?_)))); clear hb1))
    | (go_at_call 22; ((with_reducible refine (WY.out _).mono ?_); rintro e w2 ⟨p1, c1, q1, d1, rfl, s1, t1, hb2⟩; have HB2 := Lib.hid (bstep hb2 HB1.out); have C2 := blk_later (by simp) hb2 C1; have SP := Lib.hid s1; have TR := Lib.hid t1; clear hb2 s1 t1)))
  have L2 := blk_lt (by simp) C2
  have T0 := Lib.hid (tg_new w2 N)
  go_loopg [8] M (fun k i wr => TjRel R E M N w2.heap.size (w2.heap.size + 1) w2 k i wr)
  case atStart => exact ⟨0, by omega, rfl, rfl, T0.out⟩
  case round =>
    obtain ⟨j, hj, rfl, rfl, hst⟩ := hrel
    have HW := Lib.hid hst
    by_cases hlt : j < M
    · clear hst
      go_wp2_with fail
      go_loopg [9] 3 (fun k i wr => TkRel R E j N w2.heap.size (w2.heap.size + 1) w2 k i wr)
      case atStart => exact ⟨0, by omega, rfl, rfl, HW.out⟩
      case round =>
        obtain ⟨q, hq, rfl, rfl, hst⟩ := hrel
        have HX := Lib.hid hst
        by_cases hq3 : q < 3
        · obtain ⟨gt, rfl, hgt, hgtl, hgtc⟩ := row3_cell TR.out (by omega)
          have hjT : j < (trisN R).length := by rw [HM.out]; exact hlt
          obtain ⟨x, y, he, hx, hy, vx, vy, hxy⟩ := HE.out.at_ j hjT q hq3
          have cx := (hst.low.cell (p := ⟨gt, j * 3 + q, none⟩) hgt).trans (tri_cells hgtc j hjT q hq3)
          have cy := (hst.low.cell (p := ⟨gt, j * 3 + (q + 1) % 3, none⟩) hgt).trans (tri_cells hgtc j hjT ((q + 1) % 3) (Nat.mod_lt _ (by omega)))
          rw [← hx] at cx
          rw [← hy] at cy
          have na := NL.out x vx
          have nb := NL.out y vy
          have hnew := HE.out.new _ _ he
          have hnext := edL_next (R := R) he
          have hlk := tg_look hst (nm R x) (nm R y) (by omega) (by omega)
          have hl := edL_le R E (3 * j + q)
          obtain ⟨v0, st, u1, u2, hlk3, e1, e2, ⟨bb, cu⟩, fu, lu, tn⟩ := tg_next (tg_drew hst) (nm R x) (nm R y) na (by omega) (by omega) (by omega)
          have hlk2 := tg_look (tg_drew hst) (nm R x) (nm R y) (by omega) (by omega)
          simp only [nm2] at hnew hnext
          rw [← hnext] at tn
          rw [if_neg hnew] at hlk hlk2 hlk3
          have HTN := Lib.hid tn
          generalize nm R x = a at *
          generalize nm R y = b at *
          obtain ⟨p, hp⟩ : ∃ p, (q + 1) % 3 = p := ⟨_, rfl⟩
          rw [hp] at cy
          have hpi : ((q : Int) + 1) % 3 = (p : Int) := by omega
          have hpi2 : ((q : Int) + 1).tmod 3 = (p : Int) := by rw [Int.tmod_eq_emod_of_nonneg (by omega)]; exact hpi
          have hp0 : (0 : Int) ≤ (p : Int) := by omega
          have hp1 : (p : Int) < 3 := by omega
          have hq0 : (0 : Int) ≤ (q : Int) := by omega
          have hq1 : (q : Int) < 3 := by omega
          have hj0 : (0 : Int) ≤ (j : Int) := by omega
          have hj1 : (j : Int) < (M : Int) := by omega
          have a0 : (0 : Int) ≤ (a : Int) := by omega
          have a1 : (a : Int) < (N : Int) := by omega
          have b0 : (0 : Int) ≤ (b : Int) := by omega
          have b1 : (b : Int) < (N : Int) := by omega
          have a2 : ¬ ((a : Int) < 0) := by omega
          have b2 : ¬ ((b : Int) < 0) := by omega
          have a3 : ¬ ((N : Int) ≤ (a : Int)) := by omega
          have b3 : ¬ ((N : Int) ≤ (b : Int)) := by omega
          have ab : ¬ ((a : Int) = (b : Int)) := by omega
          have ab2 : ((a : Int) == (b : Int)) = false := beq_eq_false_iff_ne.mpr ab
          have a4 : decide (N ≤ a) = false := decide_eq_false (by omega)
          have b4 : decide (N ≤ b) = false := decide_eq_false (by omega)
          have W1 : IntKind.i64.wrap 1 = 1 := by decide
          have ab3 : decide (a = b) = false := decide_eq_false (by omega)
          clear hst hgtc he hx hy hnew hnext tn hp vx vy hl hgtl hxy
          go_wp2_with fail
          refine wp_region_held_drew (S := (fun _ => True)) (by kernel_rfl) ?_ (fun hHeld => ?_)
          · (try dsimp only); (first | done | trivial)
          refine wpAnyH_take (i := 0) (oi := { dst := some 97, op := Go.Op.move (Go.Operand.tmp 6), type := 53, pos := "law.go:79", after := #[], guard := none }) (v := ?_) rfl (by kernel_rfl) (by kernel_rfl) (by kernel_rfl) (fun _ _ _ h => h) (Or.inl ⟨by rfl, ?_⟩) (by assumption) ?_
          rotate_left
          · intro w hSw; (try dsimp only at hSw); go_simp; (try with_reducible rfl)
          try simp only [Act.put, List.setIfInBounds_toArray, List.set_cons_zero, List.set_cons_succ]
          refine wpAnyH_take (i := 1) (oi := { dst := some 98, op := Go.Op.move (Go.Operand.tmp 10), type := 3, pos := "law.go:79", after := #[], guard := none }) (v := ?_) rfl (by kernel_rfl) (by kernel_rfl) (by kernel_rfl) (fun _ _ _ h => h) (Or.inl ⟨by rfl, ?_⟩) (by assumption) ?_
          rotate_left
          · intro w hSw; (try dsimp only at hSw); go_simp; (try with_reducible rfl)
          try simp only [Act.put, List.setIfInBounds_toArray, List.set_cons_zero, List.set_cons_succ]
          refine wpAnyH_take (i := 2) (oi := { dst := some 99, op := Go.Op.move (Go.Operand.tmp 11), type := 3, pos := "law.go:79", after := #[], guard := none }) (v := ?_) rfl (by kernel_rfl) (by kernel_rfl) (by kernel_rfl) (fun _ _ _ h => h) (Or.inl ⟨by rfl, ?_⟩) (by assumption) ?_
          rotate_left
          · intro w hSw; (try dsimp only at hSw); go_simp; (try with_reducible rfl)
          try simp only [Act.put, List.setIfInBounds_toArray, List.set_cons_zero, List.set_cons_succ]
          refine wpAnyH_take (i := 3) (oi := { dst := some 100, op := Go.Op.build 55 #[(0, Go.Operand.tmp 98), (1, Go.Operand.tmp 99)], type := 55, pos := "law.go:79", after := #[{ on := 1, ground := Go.Ground.data }, { on := 2, ground := Go.Ground.data }], guard := none }) (v := ?_) rfl (by kernel_rfl) (by kernel_rfl) (by kernel_rfl) (fun _ _ _ h => h) (Or.inl ⟨by rfl, ?_⟩) (by assumption) ?_
          rotate_left
          · intro w hSw; (try dsimp only at hSw); go_simp; (try with_reducible rfl)
          try simp only [Act.put, List.setIfInBounds_toArray, List.set_cons_zero, List.set_cons_succ]
          refine wpAnyH_ready (rs := [4, 6]) (by kernel_rfl) (by simp) ?_
          refine AllReadyH.cons (o := { dst := some 101, op := Go.Op.lookup 53 (Go.Operand.tmp 97) (Go.Operand.tmp 100) false, type := 3, pos := "law.go:79", after := #[{ on := 0, ground := Go.Ground.data }, { on := 3, ground := Go.Ground.data }], guard := none }) rfl (fun K hK => ?_) ?_
          · go_simp
            skip
            refine hK.out _ _ ?_ (fun hHeld4 => ?_)
            · (try dsimp only); (first | done | trivial)
            clear hK K hHeld
            try simp only [Act.put, List.setIfInBounds_toArray, List.set_cons_zero, List.set_cons_succ]
            refine wpAnyH_take (i := 5) (oi := { dst := some 102, op := Go.Op.binOp Go.BinOp.add 3 (Go.Operand.tmp 101) (Go.Operand.const (Go.Value.int Go.IntKind.i64 1)) 3, type := 3, pos := "law.go:79", after := #[{ on := 4, ground := Go.Ground.data }], guard := none }) (v := ?_) rfl (by kernel_rfl) (by kernel_rfl) (by kernel_rfl) (fun _ _ _ h => h) (Or.inl ⟨by rfl, ?_⟩) (by assumption) ?_
            rotate_left
            · intro w hSw; (try dsimp only at hSw); go_simp; (try with_reducible rfl)
            try simp only [Act.put, List.setIfInBounds_toArray, List.set_cons_zero, List.set_cons_succ]
            refine wpAnyH_ready (rs := [6]) (by kernel_rfl) (by simp) ?_
            refine AllReadyH.cons (o := { dst := some 103, op := Go.Op.mapEntry 53 (Go.Operand.tmp 97) (Go.Operand.tmp 100), type := 0, pos := "law.go:79", after := #[{ on := 0, ground := Go.Ground.data }, { on := 3, ground := Go.Ground.data }, { on := 0, ground := Go.Ground.phase }, { on := 1, ground := Go.Ground.phase }, { on := 2, ground := Go.Ground.phase }, { on := 3, ground := Go.Ground.phase }, { on := 4, ground := Go.Ground.textOnly Go.Departure.mapOpAssignEntry }, { on := 5, ground := Go.Ground.textOnly Go.Departure.mapOpAssignEntry }], guard := none }) rfl (fun K hK => ?_) AllReadyH.nil
            go_simp
            skip
            refine hK.out _ _ ?_ (fun hHeld6 => ?_)
            · (try dsimp only); (first | done | trivial)
            clear hK K hHeld4
            try simp only [Act.put, List.setIfInBounds_toArray, List.set_cons_zero, List.set_cons_succ]
            refine wpAnyH_take (i := 7) (oi := { dst := some 104, op := Go.Op.extract (Go.Operand.tmp 103) 1, type := 3, pos := "law.go:79", after := #[{ on := 6, ground := Go.Ground.data }], guard := none }) (v := ?_) rfl (by kernel_rfl) (by kernel_rfl) (by kernel_rfl) (fun _ _ _ h => h) (Or.inl ⟨by rfl, ?_⟩) (by assumption) ?_
            rotate_left
            · intro w hSw; (try dsimp only at hSw); go_simp; (try with_reducible rfl)
            try simp only [Act.put, List.setIfInBounds_toArray, List.set_cons_zero, List.set_cons_succ]
            refine wpAnyH_ready (rs := [8]) (by kernel_rfl) (by simp) ?_
            refine AllReadyH.cons (o := { dst := none, op := Go.Op.entryStore 53 (Go.Operand.tmp 97) (Go.Operand.tmp 104) (Go.Operand.tmp 102), type := 0, pos := "law.go:79", after := #[{ on := 0, ground := Go.Ground.data }, { on := 7, ground := Go.Ground.data }, { on := 5, ground := Go.Ground.data }, { on := 6, ground := Go.Ground.chain }, { on := 0, ground := Go.Ground.phase }, { on := 1, ground := Go.Ground.phase }, { on := 2, ground := Go.Ground.phase }, { on := 3, ground := Go.Ground.phase }, { on := 4, ground := Go.Ground.phase }, { on := 5, ground := Go.Ground.phase }, { on := 6, ground := Go.Ground.phase }, { on := 7, ground := Go.Ground.phase }], guard := none }) rfl (fun K hK => ?_) AllReadyH.nil
            go_simp
            skip
            refine hK.out _ _ ?_ (fun hHeld8 => ?_)
            · (try dsimp only); (first | done | trivial)
            clear hK K hHeld6
            try simp only [Act.put, List.setIfInBounds_toArray, List.set_cons_zero, List.set_cons_succ]
            refine wpAnyH_done (by kernel_rfl) ?_ _
            clear hHeld8
            go_wp2_with fail
            go_roundg (3 - (q + 1))
            case measure => omega
            case rel => exact ⟨q + 1, by omega, rfl, by simp, by rw [← Nat.add_assoc]; first | exact HTN.out | exact tg_drewN HTN.out _⟩
          refine AllReadyH.cons (o := { dst := some 103, op := Go.Op.mapEntry 53 (Go.Operand.tmp 97) (Go.Operand.tmp 100), type := 0, pos := "law.go:79", after := #[{ on := 0, ground := Go.Ground.data }, { on := 3, ground := Go.Ground.data }, { on := 0, ground := Go.Ground.phase }, { on := 1, ground := Go.Ground.phase }, { on := 2, ground := Go.Ground.phase }, { on := 3, ground := Go.Ground.phase }, { on := 4, ground := Go.Ground.textOnly Go.Departure.mapOpAssignEntry }, { on := 5, ground := Go.Ground.textOnly Go.Departure.mapOpAssignEntry }], guard := none }) rfl (fun K hK => ?_) ?_
          · go_simp
            skip
            refine hK.out _ _ ?_ (fun hHeld6 => ?_)
            · (try dsimp only); (first | done | trivial)
            clear hK K hHeld
            try simp only [Act.put, List.setIfInBounds_toArray, List.set_cons_zero, List.set_cons_succ]
            refine wpAnyH_take (i := 7) (oi := { dst := some 104, op := Go.Op.extract (Go.Operand.tmp 103) 1, type := 3, pos := "law.go:79", after := #[{ on := 6, ground := Go.Ground.data }], guard := none }) (v := ?_) rfl (by kernel_rfl) (by kernel_rfl) (by kernel_rfl) (fun _ _ _ h => h) (Or.inl ⟨by rfl, ?_⟩) (by assumption) ?_
            rotate_left
            · intro w hSw; (try dsimp only at hSw); go_simp; (try with_reducible rfl)
            try simp only [Act.put, List.setIfInBounds_toArray, List.set_cons_zero, List.set_cons_succ]
            refine wpAnyH_ready (rs := [4]) (by kernel_rfl) (by simp) ?_
            refine AllReadyH.cons (o := { dst := some 101, op := Go.Op.lookup 53 (Go.Operand.tmp 97) (Go.Operand.tmp 100) false, type := 3, pos := "law.go:79", after := #[{ on := 0, ground := Go.Ground.data }, { on := 3, ground := Go.Ground.data }], guard := none }) rfl (fun K hK => ?_) AllReadyH.nil
            go_simp
            skip
            refine hK.out _ _ ?_ (fun hHeld4 => ?_)
            · (try dsimp only); (first | done | trivial)
            clear hK K hHeld6
            try simp only [Act.put, List.setIfInBounds_toArray, List.set_cons_zero, List.set_cons_succ]
            refine wpAnyH_take (i := 5) (oi := { dst := some 102, op := Go.Op.binOp Go.BinOp.add 3 (Go.Operand.tmp 101) (Go.Operand.const (Go.Value.int Go.IntKind.i64 1)) 3, type := 3, pos := "law.go:79", after := #[{ on := 4, ground := Go.Ground.data }], guard := none }) (v := ?_) rfl (by kernel_rfl) (by kernel_rfl) (by kernel_rfl) (fun _ _ _ h => h) (Or.inl ⟨by rfl, ?_⟩) (by assumption) ?_
            rotate_left
            · intro w hSw; (try dsimp only at hSw); go_simp; (try with_reducible rfl)
            try simp only [Act.put, List.setIfInBounds_toArray, List.set_cons_zero, List.set_cons_succ]
            refine wpAnyH_ready (rs := [8]) (by kernel_rfl) (by simp) ?_
            refine AllReadyH.cons (o := { dst := none, op := Go.Op.entryStore 53 (Go.Operand.tmp 97) (Go.Operand.tmp 104) (Go.Operand.tmp 102), type := 0, pos := "law.go:79", after := #[{ on := 0, ground := Go.Ground.data }, { on := 7, ground := Go.Ground.data }, { on := 5, ground := Go.Ground.data }, { on := 6, ground := Go.Ground.chain }, { on := 0, ground := Go.Ground.phase }, { on := 1, ground := Go.Ground.phase }, { on := 2, ground := Go.Ground.phase }, { on := 3, ground := Go.Ground.phase }, { on := 4, ground := Go.Ground.phase }, { on := 5, ground := Go.Ground.phase }, { on := 6, ground := Go.Ground.phase }, { on := 7, ground := Go.Ground.phase }], guard := none }) rfl (fun K hK => ?_) AllReadyH.nil
            go_simp
            skip
            refine hK.out _ _ ?_ (fun hHeld8 => ?_)
            · (try dsimp only); (first | done | trivial)
            clear hK K hHeld4
            try simp only [Act.put, List.setIfInBounds_toArray, List.set_cons_zero, List.set_cons_succ]
            refine wpAnyH_done (by kernel_rfl) ?_ _
            clear hHeld8
            go_wp2_with fail
            go_roundg (3 - (q + 1))
            case measure => omega
            case rel => exact ⟨q + 1, by omega, rfl, by simp, by rw [← Nat.add_assoc]; first | exact HTN.out | exact tg_drewN HTN.out _⟩
          exact AllReadyH.nil
        · obtain rfl : q = 3 := by omega
          have hq1 : ¬ ((3 : Int) < 3) := by omega
          clear hst
          go_wp2_with fail
          go_roundg (M - (j + 1))
          case measure => omega
          case rel => exact ⟨j + 1, by omega, rfl, by simp, by rw [show 3 * (j + 1) = 3 * j + 3 by omega]; first | exact HX.out | exact tg_drewN HX.out _⟩
    · obtain rfl : j = M := by omega
      have hj1 : ¬ ((j : Int) < (j : Int)) := by omega
      clear hst
      go_wp2_with fail
      go_loopg [12, 13] j (fun k s i wr2 => T2Rel R E j N w2.heap.size (w2.heap.size + 1) w2 k s i wr2)
      case atStart => exact ⟨0, by omega, rfl, rfl, rfl, by first | exact ts_of rfl HW.out | exact ts_drewN (ts_of rfl HW.out) _⟩
      case round =>
        obtain ⟨i, hi, rfl, rfl, rfl, hst⟩ := hrel
        have HS2 := Lib.hid hst
        by_cases hlti : i < j
        · have hi0 : (0 : Int) ≤ (i : Int) := by omega
          have hi1 : (i : Int) < (j : Int) := by omega
          clear hst
          go_wp2_with fail
          go_loopg [12, 14] 3 (fun k s q wr2 => T3Rel R E j i N w2.heap.size (w2.heap.size + 1) w2 k s q wr2)
          case atStart => exact ⟨0, by omega, rfl, rfl, rfl, HS2.out⟩
          case round =>
            obtain ⟨q, hq, rfl, rfl, rfl, hst⟩ := hrel
            have HX := Lib.hid hst
            by_cases hq3 : q < 3
            · obtain ⟨gt, rfl, hgt, hgtl, hgtc⟩ := row3_cell TR.out (by omega)
              have hiT : i < (trisN R).length := by rw [HM.out]; exact hlti
              obtain ⟨x, y, he, hx, hy, vx, vy, hxy⟩ := HE.out.at_ i hiT q hq3
              have hN0 : 0 < N := Nat.lt_of_le_of_lt (Nat.zero_le _) (NL.out x vx)
              obtain ⟨gs, rfl, hgs, hgsl, hgsc⟩ := row3_cell SP.out hN0
              have cx := tri_cells hgtc i hiT q hq3
              have cy := tri_cells hgtc i hiT ((q + 1) % 3) (Nat.mod_lt _ (by omega))
              rw [← hx] at cx
              rw [← hy] at cy
              have hback := HE.out.back x y (List.mem_of_getElem? he)
              rw [HE.out.len, HM.out] at hback
              obtain ⟨n1, z1, a0, a1, k1, y10, y11, y12⟩ := SC.out N gs w2 x vx hgsl hgsc
              obtain ⟨n2, z2, b0, b1, k2, y20, y21, y22⟩ := SC.out N gs w2 y vy hgsl hgsc
              rw [z1] at cx
              rw [z2] at cy
              rw [z1, z2] at hback
              have cl := cntA_le R E (3 * i + q)
              have AX := Lib.hid (fun w => AL.out x y w)
              have LK := Lib.hid (fun (w' : World) (hs : TsW w2.heap.size (w2.heap.size + 1) N w2 (edL R E (3 * j)) w') (c : Int) hc => ts_look hs n2 n1 (by omega) (by omega) (c := c) hc)
              obtain ⟨c1', g1⟩ : ∃ c, cntA R E (3 * i + q) = c := ⟨_, rfl⟩
              have CY := Lib.hid (fun h => cntA_yes (R := R) he h)
              have CN := Lib.hid (fun h => cntA_no (R := R) he h)
              rw [g1] at CY CN cl
              rw [g1]
              obtain ⟨u10, f1⟩ : ∃ u, x.1 = u := ⟨_, rfl⟩
              obtain ⟨u11, f2⟩ : ∃ u, x.2.1 = u := ⟨_, rfl⟩
              obtain ⟨u12, f3⟩ : ∃ u, x.2.2 = u := ⟨_, rfl⟩
              obtain ⟨u20, f4⟩ : ∃ u, y.1 = u := ⟨_, rfl⟩
              obtain ⟨u21, f5⟩ : ∃ u, y.2.1 = u := ⟨_, rfl⟩
              obtain ⟨u22, f6⟩ : ∃ u, y.2.2 = u := ⟨_, rfl⟩
              rw [f1] at y10
              rw [f2] at y11
              rw [f3] at y12
              rw [f4] at y20
              rw [f5] at y21
              rw [f6] at y22
              rw [f1, f2, f3, f4, f5, f6] at AX
              obtain ⟨p, hp⟩ : ∃ p, (q + 1) % 3 = p := ⟨_, rfl⟩
              rw [hp] at cy
              have hpi : ((q : Int) + 1) % 3 = (p : Int) := by omega
              have hpi2 : ((q : Int) + 1).tmod 3 = (p : Int) := by rw [Int.tmod_eq_emod_of_nonneg (by omega)]; exact hpi
              have hp0 : (0 : Int) ≤ (p : Int) := by omega
              have hp1 : (p : Int) < 3 := by omega
              have hq0 : (0 : Int) ≤ (q : Int) := by omega
              have hq1 : (q : Int) < 3 := by omega
              have HBK := Lib.hid hback
              have K0 := fl_of hst.low
              have W0 : wr.cell? ⟨gt, i * 3 + q, none⟩ = some (.int .i64 (n1 : Int)) := (hst.low.cell (p := ⟨gt, i * 3 + q, none⟩) hgt).trans cx
              have W1 : wr.cell? ⟨gt, i * 3 + p, none⟩ = some (.int .i64 (n2 : Int)) := (hst.low.cell (p := ⟨gt, i * 3 + p, none⟩) hgt).trans cy
              clear hst hgtc hgsc he hx hy vx vy hxy hgtl hgsl z1 z2 f1 f2 f3 f4 f5 f6 hp hback
              go_wp2_with fail
              refine wp_region_held_drew (S := (fun w' => (∀ b o, b < w2.heap.size → w'.cell? ⟨b, o, none⟩ = w2.cell? ⟨b, o, none⟩))) (by kernel_rfl) ?_ (fun hHeld => ?_)
              · (try dsimp only); (exact K0)
              refine wpAnyH_take (i := 0) (oi := { dst := some 132, op := Go.Op.load 44 (Go.Operand.tmp 1), type := 44, pos := "law.go:88", after := #[], guard := none }) (v := ?_) rfl (by kernel_rfl) (by kernel_rfl) (by kernel_rfl) (fun _ _ _ h => h) (Or.inl ⟨by rfl, ?_⟩) (by assumption) ?_
              rotate_left
              · intro w hSw; (try dsimp only at hSw); go_simp; (try with_reducible rfl)
              try simp only [Act.put, List.setIfInBounds_toArray, List.set_cons_zero, List.set_cons_succ]
              refine wpAnyH_take (i := 1) (oi := { dst := some 133, op := Go.Op.move (Go.Operand.tmp 3), type := 45, pos := "law.go:88", after := #[], guard := none }) (v := ?_) rfl (by kernel_rfl) (by kernel_rfl) (by kernel_rfl) (fun _ _ _ h => h) (Or.inl ⟨by rfl, ?_⟩) (by assumption) ?_
              rotate_left
              · intro w hSw; (try dsimp only at hSw); go_simp; (try with_reducible rfl)
              try simp only [Act.put, List.setIfInBounds_toArray, List.set_cons_zero, List.set_cons_succ]
              refine wpAnyH_take (i := 2) (oi := { dst := some 134, op := Go.Op.move (Go.Operand.tmp 15), type := 3, pos := "law.go:88", after := #[], guard := none }) (v := ?_) rfl (by kernel_rfl) (by kernel_rfl) (by kernel_rfl) (fun _ _ _ h => h) (Or.inl ⟨by rfl, ?_⟩) (by assumption) ?_
              rotate_left
              · intro w hSw; (try dsimp only at hSw); go_simp; (try with_reducible rfl)
              try simp only [Act.put, List.setIfInBounds_toArray, List.set_cons_zero, List.set_cons_succ]
              refine wpAnyH_take (i := 3) (oi := { dst := some 135, op := Go.Op.indexAddr 45 (Go.Operand.tmp 133) (Go.Operand.tmp 134), type := 0, pos := "law.go:88", after := #[{ on := 1, ground := Go.Ground.data }, { on := 2, ground := Go.Ground.data }], guard := none }) (v := ?_) rfl (by kernel_rfl) (by kernel_rfl) (by kernel_rfl) (fun _ _ _ h => h) (Or.inl ⟨by rfl, ?_⟩) (by assumption) ?_
              rotate_left
              · intro w hSw; (try dsimp only at hSw); go_simp; (try with_reducible rfl)
              try simp only [Act.put, List.setIfInBounds_toArray, List.set_cons_zero, List.set_cons_succ]
              refine wpAnyH_take (i := 4) (oi := { dst := some 136, op := Go.Op.load 50 (Go.Operand.tmp 135), type := 50, pos := "law.go:88", after := #[{ on := 3, ground := Go.Ground.data }], guard := none }) (v := ?_) rfl (by kernel_rfl) (by kernel_rfl) (by kernel_rfl) (fun _ _ _ h => h) (Or.inl ⟨by rfl, ?_⟩) (by assumption) ?_
              rotate_left
              · intro w hSw; (try dsimp only at hSw); go_simp; (try with_reducible rfl)
              try simp only [Act.put, List.setIfInBounds_toArray, List.set_cons_zero, List.set_cons_succ]
              refine wpAnyH_take (i := 5) (oi := { dst := some 137, op := Go.Op.move (Go.Operand.tmp 3), type := 45, pos := "law.go:88", after := #[], guard := none }) (v := ?_) rfl (by kernel_rfl) (by kernel_rfl) (by kernel_rfl) (fun _ _ _ h => h) (Or.inl ⟨by rfl, ?_⟩) (by assumption) ?_
              rotate_left
              · intro w hSw; (try dsimp only at hSw); go_simp; (try with_reducible rfl)
              try simp only [Act.put, List.setIfInBounds_toArray, List.set_cons_zero, List.set_cons_succ]
              refine wpAnyH_take (i := 6) (oi := { dst := some 138, op := Go.Op.move (Go.Operand.tmp 16), type := 3, pos := "law.go:88", after := #[], guard := none }) (v := ?_) rfl (by kernel_rfl) (by kernel_rfl) (by kernel_rfl) (fun _ _ _ h => h) (Or.inl ⟨by rfl, ?_⟩) (by assumption) ?_
              rotate_left
              · intro w hSw; (try dsimp only at hSw); go_simp; (try with_reducible rfl)
              try simp only [Act.put, List.setIfInBounds_toArray, List.set_cons_zero, List.set_cons_succ]
              refine wpAnyH_take (i := 7) (oi := { dst := some 139, op := Go.Op.indexAddr 45 (Go.Operand.tmp 137) (Go.Operand.tmp 138), type := 0, pos := "law.go:88", after := #[{ on := 5, ground := Go.Ground.data }, { on := 6, ground := Go.Ground.data }], guard := none }) (v := ?_) rfl (by kernel_rfl) (by kernel_rfl) (by kernel_rfl) (fun _ _ _ h => h) (Or.inl ⟨by rfl, ?_⟩) (by assumption) ?_
              rotate_left
              · intro w hSw; (try dsimp only at hSw); go_simp; (try with_reducible rfl)
              try simp only [Act.put, List.setIfInBounds_toArray, List.set_cons_zero, List.set_cons_succ]
              refine wpAnyH_take (i := 8) (oi := { dst := some 140, op := Go.Op.load 50 (Go.Operand.tmp 139), type := 50, pos := "law.go:88", after := #[{ on := 7, ground := Go.Ground.data }], guard := none }) (v := ?_) rfl (by kernel_rfl) (by kernel_rfl) (by kernel_rfl) (fun _ _ _ h => h) (Or.inl ⟨by rfl, ?_⟩) (by assumption) ?_
              rotate_left
              · intro w hSw; (try dsimp only at hSw); go_simp; (try with_reducible rfl)
              try simp only [Act.put, List.setIfInBounds_toArray, List.set_cons_zero, List.set_cons_succ]
              refine wpAnyH_ready (rs := [9]) (by kernel_rfl) (by simp) ?_
              refine AllReadyH.cons (o := { dst := some 141, op := Go.Op.call { callee := Go.Callee.value (Go.Operand.func 24), args := #[Go.Operand.tmp 132, Go.Operand.tmp 136, Go.Operand.tmp 140], argTypes := #[44, 50, 50] }, type := 3, pos := "law.go:88", after := #[{ on := 0, ground := Go.Ground.data }, { on := 4, ground := Go.Ground.data }, { on := 8, ground := Go.Ground.data }], guard := none }) rfl (fun K hK => ?_) AllReadyH.nil
              go_simp
              (go_at_call 24; ((with_reducible refine (AX.out _).mono ?_); rintro e v1 ⟨⟨v, rfl, hv⟩, gb⟩; have HV := Lib.hid hv; have HT := Lib.hid (ts_below (ts_drew HX.out) gb); clear hv gb))
              refine hK.out _ _ ?_ (fun hHeld9 => ?_)
              · (try dsimp only); (exact fl_of HT.out.low)
              clear hK K hHeld
              try simp only [Act.put, List.setIfInBounds_toArray, List.set_cons_zero, List.set_cons_succ]
              refine wpAnyH_take (i := 10) (oi := { dst := some 17, op := Go.Op.assign (Go.Operand.tmp 141), type := 3, pos := "law.go:88", after := #[{ on := 9, ground := Go.Ground.data }, { on := 9, ground := Go.Ground.chain }, { on := 0, ground := Go.Ground.phase }, { on := 1, ground := Go.Ground.phase }, { on := 2, ground := Go.Ground.phase }, { on := 3, ground := Go.Ground.phase }, { on := 4, ground := Go.Ground.phase }, { on := 5, ground := Go.Ground.phase }, { on := 6, ground := Go.Ground.phase }, { on := 7, ground := Go.Ground.phase }, { on := 8, ground := Go.Ground.phase }, { on := 9, ground := Go.Ground.phase }], guard := none }) (v := ?_) rfl (by kernel_rfl) (by kernel_rfl) (by kernel_rfl) (fun _ _ _ h => h) (Or.inl ⟨by rfl, ?_⟩) (by assumption) ?_
              rotate_left
              · intro w hSw; (try dsimp only at hSw); go_simp; (try with_reducible rfl)
              try simp only [Act.put, List.setIfInBounds_toArray, List.set_cons_zero, List.set_cons_succ]
              refine wpAnyH_done (by kernel_rfl) ?_ _
              clear hHeld9
              rcases HV.out with ⟨hA, hv0, hv1⟩ | ⟨hA, rfl⟩
              · have lk := LK.out v1 HT.out 0 (if_neg (fun h => HBK.out.1 h hA))
                have cn := CY.out hA
                have v2 : ¬ v < 0 := by omega
                have HCN := Lib.hid cn
                clear hA cn HV
                go_wp2_with fail
                go_roundg (3 - (q + 1))
                case measure => omega
                case rel => exact ⟨q + 1, by omega, rfl, by rw [← Nat.add_assoc, HCN.out]; try (first | rfl | simp), by simp, by first | exact HT.out | exact ts_drewN HT.out _⟩
              · have lk := LK.out v1 HT.out 1 (if_pos (HBK.out.2 hA))
                have cn := CN.out hA
                have HCN := Lib.hid cn
                clear hA cn HV
                go_wp2_with fail
                go_roundg (3 - (q + 1))
                case measure => omega
                case rel => exact ⟨q + 1, by omega, rfl, by rw [← Nat.add_assoc, HCN.out]; try (first | rfl | simp), by simp, by first | exact HT.out | exact ts_drewN HT.out _⟩
            · obtain rfl : q = 3 := by omega
              have hq1 : ¬ ((3 : Int) < 3) := by omega
              clear hst
              go_wp2_with fail
              go_roundg (j - (i + 1))
              case measure => omega
              case rel => exact ⟨i + 1, by omega, rfl, by rw [show 3 * (i + 1) = 3 * i + 3 by omega], by simp, by first | exact HX.out | exact ts_drewN HX.out _⟩
        · obtain rfl : i = j := by omega
          have hi1 : ¬ ((i : Int) < (i : Int)) := by omega
          have hsum : cntA R E (3 * i) = r0 + r1 + r2 + r3 := by rw [← HS.out, ← HE.out.sum, HE.out.len, HM.out]
          have HSUM := Lib.hid hsum
          have hs64 : r0 + r1 + r2 + r3 ≤ 64 := by rw [← HS.out]; exact hS64
          obtain ⟨c, hc⟩ : ∃ c, cntA R E (3 * i) = c := ⟨_, rfl⟩
          rw [hc] at hsum
          rw [hc]
          have HSUM := Lib.hid hsum
          clear hst hsum hc
          go_wp2_with fail
          go_loopg [19] N (fun k o wr3 => T4Rel R E i N w2.heap.size (w2.heap.size + 1) w2 k o wr3)
          case atStart => exact ⟨0, by omega, rfl, rfl, by first | exact HS2.out | exact ts_drewN HS2.out _⟩
          case round =>
            obtain ⟨n, hn, rfl, rfl, hst⟩ := hrel
            have HY := Lib.hid hst
            by_cases hltn : n < N
            · have hu := hst.used n hltn
              have ha := HE.out.all n (by rw [HN.out]; exact hltn)
              rw [HE.out.len, HM.out] at ha
              rw [ha] at hu
              have hn0 : (0 : Int) ≤ (n : Int) := by omega
              have hn1 : (n : Int) < (N : Int) := by omega
              clear hst ha
              go_wp2_with fail
              go_roundg (N - (n + 1))
              case measure => omega
              case rel => exact ⟨n + 1, by omega, rfl, by simp, by first | exact HY.out | exact ts_drewN HY.out _⟩
            · obtain rfl : n = N := by omega
              have hn1 : ¬ ((n : Int) < (n : Int)) := by omega
              have C9 := fun o => (hst.low.cell (p := ⟨w.heap.size, o, none⟩) L2).trans (C2 o)
              clear hst
              go_wp2_with fail
              have HSU := HSUM.out
              have HB' := bstep HY.out.low HB2.out
              go_returns
              exact ⟨by simp [HSU], HB'⟩
theorem weaveTight_walk (xs : List Int) (hl : xs.length = 4) (_ : ∀ x ∈ xs, I64 x) (w : World) : Calls Try.prog 8 #[.agg (xs.map (Value.int .i64)).toArray] w fun e w' => e = .returned (.bool true) ∧ Below w.heap.size w w' := by
  match xs, hl with
  | [a, b, c, d], _ =>
    show Calls Try.prog 8 #[.agg #[.int .i64 a, .int .i64 b, .int .i64 c, .int .i64 d]] w fun e w' => e = .returned (.bool true) ∧ Below w.heap.size w w'
    by_cases h : ok4 a b c d
    · obtain ⟨R, hR, rfl, rfl, rfl, rfl⟩ := ok4_nat h
      exact tight_yes R hR w
    · exact tight_no a b c d h w
end Go.Proofs.Ytoalihdempcbjaa
