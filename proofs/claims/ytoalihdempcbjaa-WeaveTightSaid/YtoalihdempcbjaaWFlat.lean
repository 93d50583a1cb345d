/- The law on weave laid flat, walked: for all rates of 64 bits it answers true. -/
import Derived.Test.YtoalihdempcbjaaWFlatQ
import Derived.Test.YtoalihdempcbjaaAlive13
import Derived.Test.YtoalihdempcbjaaWCounts
import Derived.Test.YtoalihdempcbjaaWSpots
import Derived.Test.YtoalihdempcbjaaSet
namespace Go.Proofs.Ytoalihdempcbjaa
open Go.RowKit
set_option maxRecDepth 100000
set_option linter.unusedSimpArgs false
set_option linter.unusedVariables false
set_option maxHeartbeats 2000000 in
theorem flat_no (a b c d : Int) (h : ¬ ok4 a b c d) (w : World) : Calls Try.prog 10 #[.agg #[.int .i64 a, .int .i64 b, .int .i64 c, .int .i64 d]] w fun e w' => e = .returned (.bool true) ∧ Below w.heap.size w w' := by
  have WN := Lib.hid (fun w => weave_no a b c d h w)
  clear h
  go_enter Try.func10, Try.ntmps10
  go_wp2_with (first
    | (go_at_call 21; ((with_reducible refine (alive13_any _).mono ?_); rintro e w1 ⟨rfl, hb1⟩; have C1 : ∀ o, w1.cell? ⟨w.heap.size, o, none⟩ = (#[.int .i64 a, .int .i64 b, .int .i64 c, .int .i64 d] : Array Value)[o]? := blk_later (by simp) hb1 (by (repeat (first | (with_reducible assumption) | (focus ((with_reducible refine new_at ?_ _ _); (repeat (first | (with_reducible rfl) | (with_reducible refine sz1 ?_))); done)) | (with_reducible refine blk_alloc (by simp) _ ?_) | (with_reducible refine blk_drew ?_))))))
    | (go_at_call 22; ((with_reducible refine (WN.out _).mono ?_); rintro e w2 ⟨rfl, hb2⟩)))
  go_returns
  exact ⟨by simp, by (repeat' (first | (with_reducible exact Below.refl _ _) | (with_reducible refine bstep (by with_reducible assumption) ?_) | (with_reducible refine Below.alloc ?_ ?_ _) | (with_reducible refine Below.drew ?_) | (with_reducible refine below_drewN ?_ _) | (with_reducible refine Below.setCell ?_ ?_ _) | go_size))⟩
theorem st2_blk {W : World} {b : Nat} {x y : Value} (h : ∀ o, W.cell? ⟨b, o, none⟩ = (#[x, y] : Array Value)[o]?) (u v : Value) : ∀ o, ((W.setCell ⟨b, 0, none⟩ u).setCell ⟨b, 1, none⟩ v).cell? ⟨b, o, none⟩ = (#[u, v] : Array Value)[o]? := st_blk (st_blk h 0 u (by simp)) 1 v (by simp)
theorem st2_far {W : World} {b b' : Nat} {cs : Array Value} (hn : b' ≠ b) (h : ∀ o, W.cell? ⟨b, o, none⟩ = cs[o]?) {u v : Value} : ∀ o, ((W.setCell ⟨b', 0, none⟩ u).setCell ⟨b', 1, none⟩ v).cell? ⟨b, o, none⟩ = cs[o]? := st_far hn (st_far hn h)
def FwRel (R : Rt) (M : Nat) (w2 : World) (k : Nat) (s i : Value) (wr : World) : Prop := ∃ j, j ≤ M ∧ k = M - j ∧ s = .int .i64 (sumA R ((trisN R).take j)) ∧ i = .int .i64 (j : Int) ∧ Below w2.heap.size w2 wr
theorem fl_keep {B : Nat} {w2 W W' : World} (h : ∀ b o, b < B → W.cell? ⟨b, o, none⟩ = w2.cell? ⟨b, o, none⟩) (hB : B ≤ W.heap.size) (hb : Below W.heap.size W W') : ∀ b o, b < B → W'.cell? ⟨b, o, none⟩ = w2.cell? ⟨b, o, none⟩ := fun b o hl => (hb.cell (p := ⟨b, o, none⟩) (Nat.lt_of_lt_of_le hl hB)).trans (h b o hl)
theorem fl_of {B : Nat} {w2 W : World} (h : Below B w2 W) : ∀ b o, b < B → W.cell? ⟨b, o, none⟩ = w2.cell? ⟨b, o, none⟩ := fun b o hl => h.cell (p := ⟨b, o, none⟩) hl
theorem spot_cells {R : Rt} (hR : R.ok) {N g : Nat} {w : World} {s : T3} (hs : vs R s) (hgl : (spotsN R).length = N) (hgc : ∀ j (hj : j < (spotsN R).length), w.cell? ⟨g, j * 3, none⟩ = some (.int .i64 ((spotsN R)[j].1 : Int)) ∧ w.cell? ⟨g, j * 3 + 1, none⟩ = some (.int .i64 ((spotsN R)[j].2.1 : Int)) ∧ w.cell? ⟨g, j * 3 + 2, none⟩ = some (.int .i64 ((spotsN R)[j].2.2 : Int))) :
    ∃ n : Nat, nm R s = n ∧ (0 : Int) ≤ (n : Int) ∧ (n : Int) < (N : Int) ∧ n < N ∧ w.cell? ⟨g, n * 3, none⟩ = some (.int .i64 (s.1 : Int)) ∧ w.cell? ⟨g, n * 3 + 1, none⟩ = some (.int .i64 (s.2.1 : Int)) ∧ w.cell? ⟨g, n * 3 + 2, none⟩ = some (.int .i64 (s.2.2 : Int)) := by
  have h := nm_lt R hR s hs
  have e := (List.getElem?_eq_some_iff.1 (spots_at R hR s hs)).2
  obtain ⟨c0, c1, c2⟩ := hgc (nm R s) h
  rw [e] at c0 c1 c2
  exact ⟨nm R s, rfl, by omega, by omega, by omega, c0, c1, c2⟩
theorem mul_bd {x y : Int} (h1 : -720720 ≤ x) (h2 : x ≤ 720720) (h3 : -720720 ≤ y) (h4 : y ≤ 720720) : -1000000000000 ≤ x * y ∧ x * y ≤ 1000000000000 := by
  have h : (x * y).natAbs ≤ 720720 * 720720 := by
    rw [Int.natAbs_mul]
    exact Nat.mul_le_mul (by omega) (by omega)
  omega
set_option maxHeartbeats 8000000 in
theorem flat_yes (R : Rt) (hR : R.ok) (w : World) : Calls Try.prog 10 #[.agg #[.int .i64 (R.r0 : Int), .int .i64 (R.r1 : Int), .int .i64 (R.r2 : Int), .int .i64 (R.r3 : Int)]] w fun e w' => e = .returned (.bool true) ∧ Below w.heap.size w w' := by
  have WY := Lib.hid (fun w => weave_yes R hR w)
  have PL := Lib.hid (fun s hs w => place_any R hR s hs w)
  obtain ⟨PT, PS⟩ := tris_pa hR
  have HPT := Lib.hid PT
  have HPS := Lib.hid PS
  have SA := Lib.hid (fun j => sumA_take (R := R) (trisN R) (fun t ht => (HPT.out t ht).2) j)
  have SX := Lib.hid (fun j hj => sumA_next (R := R) (trisN R) j hj)
  have SC := Lib.hid (fun (N g : Nat) (w : World) (s : T3) => spot_cells hR (N := N) (g := g) (w := w) (s := s))
  have PLE := Lib.hid (fun s hs => pl_le hR (s := s) hs)
  have PN := Lib.hid (fun s hs => pn_nm hR (s := s) hs)
  obtain ⟨_, _, _, _, hM, hN, _⟩ := counts_good R hR
  obtain ⟨N, hN'⟩ : ∃ N, (spotsN R).length = N := ⟨_, rfl⟩
  obtain ⟨M, hM'⟩ : ∃ M, (trisN R).length = M := ⟨_, rfl⟩
  rw [hN'] at hN
  rw [hM'] at hM
  have WY := Lib.hid (fun w => (WY.out w).mono fun e w' h => (show ∃ p c q d, e = .returned (.tuple #[.slice p N c, .slice q M d, .bool true]) ∧ Sps w' w.heap.size (.slice p N c) N (spotsN R) ∧ Trs w' w.heap.size (.slice q M d) M (trisN R) ∧ Below w.heap.size w w' from by rw [← hN', ← hM']; exact h))
  have HN := Lib.hid hN'
  have HM := Lib.hid hM'
  obtain ⟨r0, h0⟩ : ∃ r, R.r0 = r := ⟨_, rfl⟩
  obtain ⟨r1, h1⟩ : ∃ r, R.r1 = r := ⟨_, rfl⟩
  obtain ⟨r2, h2⟩ : ∃ r, R.r2 = r := ⟨_, rfl⟩
  obtain ⟨r3, h3⟩ : ∃ r, R.r3 = r := ⟨_, rfl⟩
  rw [h0, h1, h2, h3] at WY PL ⊢
  clear PT PS hN' hM' h0 h1 h2 h3
  go_enter Try.func10, Try.ntmps10
  go_wp2_with (first
    | (go_at_call 21; ((with_reducible refine (alive13_any _).mono ?_); rintro e w1 ⟨rfl, hb1⟩; have HB1 := Lib.hid ((by (repeat' (first | (with_reducible exact Below.refl _ _) | (with_reducible refine bstep (by with_reducible assumption) ?_) | (with_reducible refine Below.alloc ?_ ?_ _) | (with_reducible refine Below.drew ?_) | (with_reducible refine below_drewN ?_ _) | (with_reducible refine Below.setCell ?_ ?_ _) | go_size))) : Below w.heap.size w w1); have C1 : ∀ o, w1.cell? ⟨w.heap.size, o, none⟩ = (#[.int .i64 (r0 : Int), .int .i64 (r1 : Int), .int .i64 (r2 : Int), .int .i64 (r3 : Int)] : Array Value)[o]? := blk_later (by simp) hb1 (by (repeat (first | (with_reducible assumption) | (focus ((with_reducible refine new_at ?_ _ _); (repeat (first | (with_reducible rfl) | (with_reducible refine sz1 ?_))); done)) | (with_reducible refine blk_alloc (by simp) _ ?_) | (with_reducible refine blk_drew ?_)))); clear hb1))
    | (go_at_call 22; ((with_reducible refine (WY.out _).mono ?_); rintro e w2 ⟨p1, c1, q1, d1, rfl, s1, t1, hb2⟩; have HB2 := Lib.hid (bstep hb2 HB1.out); have C2 := blk_later (by simp) hb2 C1; have SP := Lib.hid s1; have TR := Lib.hid t1; clear hb2 s1 t1)))
  have L2 := blk_lt (by simp) C2
  go_loopg [7, 8] M (fun k s i wr => FwRel R M w2 k s i wr)
  case atStart => exact ⟨0, by omega, rfl, rfl, rfl, Below.refl _ _⟩
  case round =>
    obtain ⟨j, hj, rfl, rfl, rfl, hb⟩ := hrel
    have HBW := Lib.hid hb
    by_cases hlt : j < M
    · have hjT : j < (trisN R).length := by rw [HM.out]; exact hlt
      have HT := HPT.out (trisN R)[j] (List.getElem_mem hjT)
      obtain ⟨⟨s1, s2, s3, v1, v2, v3, ht⟩, hA⟩ := HT
      obtain ⟨gt, rfl, hgt, hgtl, hgtc⟩ := row3_cell TR.out (by omega)
      obtain ⟨x0, x1, x2⟩ := hgtc j (by omega)
      have sx := SX.out j (by omega)
      have sa0 := SA.out j
      have sa1 := SA.out (j + 1)
      rw [ht] at x0 x1 x2 hA sx
      have hN0 : 0 < N := Nat.lt_of_le_of_lt (Nat.zero_le _) (by have := nm_lt R hR s1 v1; rw [HN.out] at this; exact this)
      obtain ⟨gs, rfl, hgs, hgsl, hgsc⟩ := row3_cell SP.out hN0
      obtain ⟨n1, e1, a1, b1, k1, y10, y11, y12⟩ := SC.out N gs w2 s1 v1 hgsl hgsc
      obtain ⟨n2, e2, a2, b2, k2, y20, y21, y22⟩ := SC.out N gs w2 s2 v2 hgsl hgsc
      obtain ⟨n3, e3, a3, b3, k3, y30, y31, y32⟩ := SC.out N gs w2 s3 v3 hgsl hgsc
      simp only [ar] at hA sx
      rw [PN.out s1 v1, PN.out s2 v2, PN.out s3 v3] at hA sx
      rw [HPS.out] at sa0 sa1
      rw [e1] at x0
      rw [e2] at x1
      rw [e3] at x2
      obtain ⟨lx1, ly1⟩ := PLE.out s1 v1
      obtain ⟨lx2, ly2⟩ := PLE.out s2 v2
      obtain ⟨lx3, ly3⟩ := PLE.out s3 v3
      have P1 := Lib.hid (fun w => PL.out s1 v1 w)
      have P2' := Lib.hid (fun w => PL.out s2 v2 w)
      have P3 := Lib.hid (fun w => PL.out s3 v3 w)
      unfold P2 at P1 P2' P3
      unfold cr at hA sx
      obtain ⟨Sj, hSj⟩ : ∃ S, sumA R ((trisN R).take j) = S := ⟨_, rfl⟩
      rw [hSj] at sa0 sx
      rw [hSj]
      rw [sx] at sa1
      have HSX := Lib.hid sx
      generalize (pl R s1).1 = X1 at *
      generalize (pl R s1).2 = Y1 at *
      generalize (pl R s2).1 = X2 at *
      generalize (pl R s2).2 = Y2 at *
      generalize (pl R s3).1 = X3 at *
      generalize (pl R s3).2 = Y3 at *
      obtain ⟨u10, f1⟩ : ∃ u, s1.1 = u := ⟨_, rfl⟩
      obtain ⟨u11, f2⟩ : ∃ u, s1.2.1 = u := ⟨_, rfl⟩
      obtain ⟨u12, f3⟩ : ∃ u, s1.2.2 = u := ⟨_, rfl⟩
      obtain ⟨u20, f4⟩ : ∃ u, s2.1 = u := ⟨_, rfl⟩
      obtain ⟨u21, f5⟩ : ∃ u, s2.2.1 = u := ⟨_, rfl⟩
      obtain ⟨u22, f6⟩ : ∃ u, s2.2.2 = u := ⟨_, rfl⟩
      obtain ⟨u30, f7⟩ : ∃ u, s3.1 = u := ⟨_, rfl⟩
      obtain ⟨u31, f8⟩ : ∃ u, s3.2.1 = u := ⟨_, rfl⟩
      obtain ⟨u32, f9⟩ : ∃ u, s3.2.2 = u := ⟨_, rfl⟩
      rw [f1] at y10
      rw [f2] at y11
      rw [f3] at y12
      rw [f4] at y20
      rw [f5] at y21
      rw [f6] at y22
      rw [f7] at y30
      rw [f8] at y31
      rw [f9] at y32
      rw [f1, f2, f3] at P1
      rw [f4, f5, f6] at P2'
      rw [f7, f8, f9] at P3
      obtain ⟨p1, hp1⟩ : ∃ p : Int, ((X2 : Int) - (X1 : Int)) * ((Y3 : Int) - (Y1 : Int)) = p := ⟨_, rfl⟩
      obtain ⟨p2, hp2⟩ : ∃ p : Int, ((Y2 : Int) - (Y1 : Int)) * ((X3 : Int) - (X1 : Int)) = p := ⟨_, rfl⟩
      rw [hp1, hp2] at hA sa1 HSX
      have bp1 : -1000000000000 ≤ p1 ∧ p1 ≤ 1000000000000 := by rw [← hp1]; exact mul_bd (by omega) (by omega) (by omega) (by omega)
      have bp2 : -1000000000000 ≤ p2 ∧ p2 ≤ 1000000000000 := by rw [← hp2]; exact mul_bd (by omega) (by omega) (by omega) (by omega)
      have wp1 : IntKind.i64.wrap (((X2 : Int) - (X1 : Int)) * ((Y3 : Int) - (Y1 : Int))) = p1 := by rw [hp1]; exact IntWalk.i64_in _ (by omega)
      have wp2 : IntKind.i64.wrap (((Y2 : Int) - (Y1 : Int)) * ((X3 : Int) - (X1 : Int))) = p2 := by rw [hp2]; exact IntWalk.i64_in _ (by omega)
      have hD : ¬ (p1 - p2 ≤ 0) := by omega
      have wS : IntKind.i64.wrap (Sj + (p1 - p2)) = Sj + (p1 - p2) := IntWalk.i64_in _ (by omega)
      have hj0 : (0 : Int) ≤ (j : Int) := by omega
      have hj1 : (j : Int) < (M : Int) := by omega
      have HHP := Lib.hid (And.intro hp1 hp2)
      have HSA := Lib.hid sa1
      have HSB := Lib.hid sa0
      have K0 := fl_of hb
      have C0 := fun o => (K0 w.heap.size o L2).trans (C2 o)
      clear hb hgtc hgsc hp1 hp2 e1 e2 e3 f1 f2 f3 f4 f5 f6 f7 f8 f9 hgtl hgsl ht hSj sx sa0 sa1
      go_wp2_with fail
      refine wp_region_held_drew (S := (fun w' => (∀ b o, b < w2.heap.size → w'.cell? ⟨b, o, none⟩ = w2.cell? ⟨b, o, none⟩))) (by kernel_rfl) ?_ (fun hHeld => ?_)
      · (try dsimp only); (exact K0)
      refine wpAnyH_take (i := 0) (oi := { dst := some 29, op := Go.Op.load 44 (Go.Operand.tmp 1), type := 44, pos := "law.go:154", after := #[], guard := none }) (v := ?_) rfl (by kernel_rfl) (by kernel_rfl) (by kernel_rfl) (fun _ _ _ h => h) (Or.inl ⟨by rfl, ?_⟩) (by assumption) ?_
      rotate_left
      · intro w hSw; (try dsimp only at hSw); go_simp; (try with_reducible rfl)
      try simp only [Act.put, List.setIfInBounds_toArray, List.set_cons_zero, List.set_cons_succ]
      refine wpAnyH_take (i := 1) (oi := { dst := some 30, op := Go.Op.move (Go.Operand.tmp 3), type := 45, pos := "law.go:154", after := #[], guard := none }) (v := ?_) rfl (by kernel_rfl) (by kernel_rfl) (by kernel_rfl) (fun _ _ _ h => h) (Or.inl ⟨by rfl, ?_⟩) (by assumption) ?_
      rotate_left
      · intro w hSw; (try dsimp only at hSw); go_simp; (try with_reducible rfl)
      try simp only [Act.put, List.setIfInBounds_toArray, List.set_cons_zero, List.set_cons_succ]
      refine wpAnyH_take (i := 2) (oi := { dst := some 31, op := Go.Op.move (Go.Operand.tmp 4), type := 46, pos := "law.go:154", after := #[], guard := none }) (v := ?_) rfl (by kernel_rfl) (by kernel_rfl) (by kernel_rfl) (fun _ _ _ h => h) (Or.inl ⟨by rfl, ?_⟩) (by assumption) ?_
      rotate_left
      · intro w hSw; (try dsimp only at hSw); go_simp; (try with_reducible rfl)
      try simp only [Act.put, List.setIfInBounds_toArray, List.set_cons_zero, List.set_cons_succ]
      refine wpAnyH_take (i := 3) (oi := { dst := some 32, op := Go.Op.move (Go.Operand.tmp 8), type := 3, pos := "law.go:154", after := #[], guard := none }) (v := ?_) rfl (by kernel_rfl) (by kernel_rfl) (by kernel_rfl) (fun _ _ _ h => h) (Or.inl ⟨by rfl, ?_⟩) (by assumption) ?_
      rotate_left
      · intro w hSw; (try dsimp only at hSw); go_simp; (try with_reducible rfl)
      try simp only [Act.put, List.setIfInBounds_toArray, List.set_cons_zero, List.set_cons_succ]
      refine wpAnyH_take (i := 4) (oi := { dst := some 33, op := Go.Op.indexAddr 46 (Go.Operand.tmp 31) (Go.Operand.tmp 32), type := 0, pos := "law.go:154", after := #[{ on := 2, ground := Go.Ground.data }, { on := 3, ground := Go.Ground.data }], guard := none }) (v := ?_) rfl (by kernel_rfl) (by kernel_rfl) (by kernel_rfl) (fun _ _ _ h => h) (Or.inl ⟨by rfl, ?_⟩) (by assumption) ?_
      rotate_left
      · intro w hSw; (try dsimp only at hSw); go_simp; (try with_reducible rfl)
      try simp only [Act.put, List.setIfInBounds_toArray, List.set_cons_zero, List.set_cons_succ]
      refine wpAnyH_take (i := 5) (oi := { dst := some 34, op := Go.Op.indexAddr 51 (Go.Operand.tmp 33) (Go.Operand.const (Go.Value.int Go.IntKind.i64 0)), type := 0, pos := "law.go:154", after := #[{ on := 4, ground := Go.Ground.data }], guard := none }) (v := ?_) rfl (by kernel_rfl) (by kernel_rfl) (by kernel_rfl) (fun _ _ _ h => h) (Or.inl ⟨by rfl, ?_⟩) (by assumption) ?_
      rotate_left
      · intro w hSw; (try dsimp only at hSw); go_simp; (try with_reducible rfl)
      try simp only [Act.put, List.setIfInBounds_toArray, List.set_cons_zero, List.set_cons_succ]
      refine wpAnyH_take (i := 6) (oi := { dst := some 35, op := Go.Op.load 3 (Go.Operand.tmp 34), type := 3, pos := "law.go:154", after := #[{ on := 5, ground := Go.Ground.data }], guard := none }) (v := ?_) rfl (by kernel_rfl) (by kernel_rfl) (by kernel_rfl) (fun _ _ _ h => h) (Or.inl ⟨by rfl, ?_⟩) (by assumption) ?_
      rotate_left
      · intro w hSw; (try dsimp only at hSw); go_simp; (try with_reducible rfl)
      try simp only [Act.put, List.setIfInBounds_toArray, List.set_cons_zero, List.set_cons_succ]
      refine wpAnyH_take (i := 7) (oi := { dst := some 36, op := Go.Op.indexAddr 45 (Go.Operand.tmp 30) (Go.Operand.tmp 35), type := 0, pos := "law.go:154", after := #[{ on := 1, ground := Go.Ground.data }, { on := 6, ground := Go.Ground.data }], guard := none }) (v := ?_) rfl (by kernel_rfl) (by kernel_rfl) (by kernel_rfl) (fun _ _ _ h => h) (Or.inl ⟨by rfl, ?_⟩) (by assumption) ?_
      rotate_left
      · intro w hSw; (try dsimp only at hSw); go_simp; (try with_reducible rfl)
      try simp only [Act.put, List.setIfInBounds_toArray, List.set_cons_zero, List.set_cons_succ]
      refine wpAnyH_take (i := 8) (oi := { dst := some 37, op := Go.Op.load 50 (Go.Operand.tmp 36), type := 50, pos := "law.go:154", after := #[{ on := 7, ground := Go.Ground.data }], guard := none }) (v := ?_) rfl (by kernel_rfl) (by kernel_rfl) (by kernel_rfl) (fun _ _ _ h => h) (Or.inl ⟨by rfl, ?_⟩) (by assumption) ?_
      rotate_left
      · intro w hSw; (try dsimp only at hSw); go_simp; (try with_reducible rfl)
      try simp only [Act.put, List.setIfInBounds_toArray, List.set_cons_zero, List.set_cons_succ]
      refine wpAnyH_take (i := 9) (oi := { dst := some 38, op := Go.Op.move (Go.Operand.tmp 6), type := 3, pos := "law.go:154", after := #[], guard := none }) (v := ?_) rfl (by kernel_rfl) (by kernel_rfl) (by kernel_rfl) (fun _ _ _ h => h) (Or.inl ⟨by rfl, ?_⟩) (by assumption) ?_
      rotate_left
      · intro w hSw; (try dsimp only at hSw); go_simp; (try with_reducible rfl)
      try simp only [Act.put, List.setIfInBounds_toArray, List.set_cons_zero, List.set_cons_succ]
      refine wpAnyH_ready (rs := [10, 11]) (by kernel_rfl) (by simp) ?_
      refine AllReadyH.cons (o := { dst := some 39, op := Go.Op.call { callee := Go.Callee.value (Go.Operand.func 25), args := #[Go.Operand.tmp 29, Go.Operand.tmp 37, Go.Operand.tmp 38], argTypes := #[44, 50, 3] }, type := 55, pos := "law.go:154", after := #[{ on := 0, ground := Go.Ground.data }, { on := 8, ground := Go.Ground.data }, { on := 9, ground := Go.Ground.data }], guard := none }) rfl (fun K hK => ?_) ?_
      · go_simp
        (go_at_call 25; ((with_reducible refine (P1.out _).mono ?_); rintro e v1 ⟨rfl, gb1⟩))
        have HV1 : Hid (Below w2.heap.size w2 v1) := Lib.hid (by have h := HBW.out; have hz := h.size; have hz2 : w2.heap.size ≤ wr.heap.size := HBW.out.size; (repeat' (first | (with_reducible assumption) | (with_reducible exact Below.refl _ _) | (with_reducible refine bstep (by with_reducible assumption) ?_) | (with_reducible refine Below.alloc ?_ ?_ _) | (with_reducible refine Below.drew ?_) | (with_reducible refine below_drewN ?_ _) | (with_reducible refine Below.setCell ?_ ?_ _) | go_size)))
        refine hK.out _ _ ?_ (fun hHeld10 => ?_)
        · (try dsimp only); (exact fl_of HV1.out)
        clear hK K hHeld
        try simp only [Act.put, List.setIfInBounds_toArray, List.set_cons_zero, List.set_cons_succ]
        refine wpAnyH_ready (rs := [11]) (by kernel_rfl) (by simp) ?_
        refine AllReadyH.cons (o := { dst := some 9, op := Go.Op.alloc 55, type := 0, pos := "law.go:154", after := #[], guard := none }) rfl (fun K hK => ?_) AllReadyH.nil
        go_simp
        refine hK.out _ _ ?_ (fun hHeld11 => ?_)
        · (try dsimp only); (exact fl_of (by have h := HV1.out; have hz := h.size; have hz2 : w2.heap.size ≤ wr.heap.size := HBW.out.size; (repeat' (first | (with_reducible assumption) | (with_reducible exact Below.refl _ _) | (with_reducible refine bstep (by with_reducible assumption) ?_) | (with_reducible refine Below.alloc ?_ ?_ _) | (with_reducible refine Below.drew ?_) | (with_reducible refine below_drewN ?_ _) | (with_reducible refine Below.setCell ?_ ?_ _) | go_size))))
        clear hK K hHeld10
        try simp only [Act.put, List.setIfInBounds_toArray, List.set_cons_zero, List.set_cons_succ]
        refine wpAnyH_ready (rs := [12]) (by kernel_rfl) (by simp) ?_
        refine AllReadyH.cons (o := { dst := none, op := Go.Op.store 55 (Go.Operand.tmp 9) (Go.Operand.tmp 39), type := 0, pos := "law.go:154", after := #[{ on := 11, ground := Go.Ground.data }, { on := 10, ground := Go.Ground.data }, { on := 10, ground := Go.Ground.chain }, { on := 0, ground := Go.Ground.phase }, { on := 1, ground := Go.Ground.phase }, { on := 2, ground := Go.Ground.phase }, { on := 3, ground := Go.Ground.phase }, { on := 4, ground := Go.Ground.phase }, { on := 5, ground := Go.Ground.phase }, { on := 6, ground := Go.Ground.phase }, { on := 7, ground := Go.Ground.phase }, { on := 8, ground := Go.Ground.phase }, { on := 9, ground := Go.Ground.phase }, { on := 10, ground := Go.Ground.phase }, { on := 11, ground := Go.Ground.phase }], guard := none }) rfl (fun K hK => ?_) AllReadyH.nil
        go_simp
        refine hK.out _ _ ?_ (fun hHeld12 => ?_)
        · (try dsimp only); (exact fl_of (by have h := HV1.out; have hz := h.size; have hz2 : w2.heap.size ≤ wr.heap.size := HBW.out.size; (repeat' (first | (with_reducible assumption) | (with_reducible exact Below.refl _ _) | (with_reducible refine bstep (by with_reducible assumption) ?_) | (with_reducible refine Below.alloc ?_ ?_ _) | (with_reducible refine Below.drew ?_) | (with_reducible refine below_drewN ?_ _) | (with_reducible refine Below.setCell ?_ ?_ _) | go_size))))
        clear hK K hHeld11
        try simp only [Act.put, List.setIfInBounds_toArray, List.set_cons_zero, List.set_cons_succ]
        refine wpAnyH_done (by kernel_rfl) ?_ _
        clear hHeld12
        have A1 : ∀ o, (v1.alloc (.cells #[.int .i64 (X1 : Int), .int .i64 (Y1 : Int)] 55)).cell? ⟨v1.heap.size, o, none⟩ = (#[.int .i64 (X1 : Int), .int .i64 (Y1 : Int)] : Array Value)[o]? := new_at rfl _ _
        have HT1 : Hid (Below w2.heap.size w2 (v1.alloc (.cells #[.int .i64 (X1 : Int), .int .i64 (Y1 : Int)] 55))) := Lib.hid (by have h := HV1.out; have hz := h.size; have hz2 : w2.heap.size ≤ wr.heap.size := HBW.out.size; (repeat' (first | (with_reducible assumption) | (with_reducible exact Below.refl _ _) | (with_reducible refine bstep (by with_reducible assumption) ?_) | (with_reducible refine Below.alloc ?_ ?_ _) | (with_reducible refine Below.drew ?_) | (with_reducible refine below_drewN ?_ _) | (with_reducible refine Below.setCell ?_ ?_ _) | go_size)))
        generalize (v1.alloc (.cells #[.int .i64 (X1 : Int), .int .i64 (Y1 : Int)] 55)) = T1 at *
        obtain ⟨n1', hn1⟩ : ∃ n, v1.heap.size = n := ⟨_, rfl⟩
        rw [hn1] at A1 ⊢
        clear hn1 gb1
        clear HV1 v1
        clear K0
        have K1 := fl_of HT1.out
        clear C0
        have C1 := fun o => (K1 w.heap.size o L2).trans (C2 o)
        go_wp2_with fail
        refine wp_region_held_drew (S := (fun w' => (∀ b o, b < w2.heap.size → w'.cell? ⟨b, o, none⟩ = w2.cell? ⟨b, o, none⟩))) (by kernel_rfl) ?_ (fun hHeld => ?_)
        · (try dsimp only); (exact K1)
        refine wpAnyH_take (i := 0) (oi := { dst := some 40, op := Go.Op.load 44 (Go.Operand.tmp 1), type := 44, pos := "law.go:155", after := #[], guard := none }) (v := ?_) rfl (by kernel_rfl) (by kernel_rfl) (by kernel_rfl) (fun _ _ _ h => h) (Or.inl ⟨by rfl, ?_⟩) (by assumption) ?_
        rotate_left
        · intro w hSw; (try dsimp only at hSw); go_simp; (try with_reducible rfl)
        try simp only [Act.put, List.setIfInBounds_toArray, List.set_cons_zero, List.set_cons_succ]
        refine wpAnyH_take (i := 1) (oi := { dst := some 41, op := Go.Op.move (Go.Operand.tmp 3), type := 45, pos := "law.go:155", after := #[], guard := none }) (v := ?_) rfl (by kernel_rfl) (by kernel_rfl) (by kernel_rfl) (fun _ _ _ h => h) (Or.inl ⟨by rfl, ?_⟩) (by assumption) ?_
        rotate_left
        · intro w hSw; (try dsimp only at hSw); go_simp; (try with_reducible rfl)
        try simp only [Act.put, List.setIfInBounds_toArray, List.set_cons_zero, List.set_cons_succ]
        refine wpAnyH_take (i := 2) (oi := { dst := some 42, op := Go.Op.move (Go.Operand.tmp 4), type := 46, pos := "law.go:155", after := #[], guard := none }) (v := ?_) rfl (by kernel_rfl) (by kernel_rfl) (by kernel_rfl) (fun _ _ _ h => h) (Or.inl ⟨by rfl, ?_⟩) (by assumption) ?_
        rotate_left
        · intro w hSw; (try dsimp only at hSw); go_simp; (try with_reducible rfl)
        try simp only [Act.put, List.setIfInBounds_toArray, List.set_cons_zero, List.set_cons_succ]
        refine wpAnyH_take (i := 3) (oi := { dst := some 43, op := Go.Op.move (Go.Operand.tmp 8), type := 3, pos := "law.go:155", after := #[], guard := none }) (v := ?_) rfl (by kernel_rfl) (by kernel_rfl) (by kernel_rfl) (fun _ _ _ h => h) (Or.inl ⟨by rfl, ?_⟩) (by assumption) ?_
        rotate_left
        · intro w hSw; (try dsimp only at hSw); go_simp; (try with_reducible rfl)
        try simp only [Act.put, List.setIfInBounds_toArray, List.set_cons_zero, List.set_cons_succ]
        refine wpAnyH_take (i := 4) (oi := { dst := some 44, op := Go.Op.indexAddr 46 (Go.Operand.tmp 42) (Go.Operand.tmp 43), type := 0, pos := "law.go:155", after := #[{ on := 2, ground := Go.Ground.data }, { on := 3, ground := Go.Ground.data }], guard := none }) (v := ?_) rfl (by kernel_rfl) (by kernel_rfl) (by kernel_rfl) (fun _ _ _ h => h) (Or.inl ⟨by rfl, ?_⟩) (by assumption) ?_
        rotate_left
        · intro w hSw; (try dsimp only at hSw); go_simp; (try with_reducible rfl)
        try simp only [Act.put, List.setIfInBounds_toArray, List.set_cons_zero, List.set_cons_succ]
        refine wpAnyH_take (i := 5) (oi := { dst := some 45, op := Go.Op.indexAddr 51 (Go.Operand.tmp 44) (Go.Operand.const (Go.Value.int Go.IntKind.i64 1)), type := 0, pos := "law.go:155", after := #[{ on := 4, ground := Go.Ground.data }], guard := none }) (v := ?_) rfl (by kernel_rfl) (by kernel_rfl) (by kernel_rfl) (fun _ _ _ h => h) (Or.inl ⟨by rfl, ?_⟩) (by assumption) ?_
        rotate_left
        · intro w hSw; (try dsimp only at hSw); go_simp; (try with_reducible rfl)
        try simp only [Act.put, List.setIfInBounds_toArray, List.set_cons_zero, List.set_cons_succ]
        refine wpAnyH_take (i := 6) (oi := { dst := some 46, op := Go.Op.load 3 (Go.Operand.tmp 45), type := 3, pos := "law.go:155", after := #[{ on := 5, ground := Go.Ground.data }], guard := none }) (v := ?_) rfl (by kernel_rfl) (by kernel_rfl) (by kernel_rfl) (fun _ _ _ h => h) (Or.inl ⟨by rfl, ?_⟩) (by assumption) ?_
        rotate_left
        · intro w hSw; (try dsimp only at hSw); go_simp; (try with_reducible rfl)
        try simp only [Act.put, List.setIfInBounds_toArray, List.set_cons_zero, List.set_cons_succ]
        refine wpAnyH_take (i := 7) (oi := { dst := some 47, op := Go.Op.indexAddr 45 (Go.Operand.tmp 41) (Go.Operand.tmp 46), type := 0, pos := "law.go:155", after := #[{ on := 1, ground := Go.Ground.data }, { on := 6, ground := Go.Ground.data }], guard := none }) (v := ?_) rfl (by kernel_rfl) (by kernel_rfl) (by kernel_rfl) (fun _ _ _ h => h) (Or.inl ⟨by rfl, ?_⟩) (by assumption) ?_
        rotate_left
        · intro w hSw; (try dsimp only at hSw); go_simp; (try with_reducible rfl)
        try simp only [Act.put, List.setIfInBounds_toArray, List.set_cons_zero, List.set_cons_succ]
        refine wpAnyH_take (i := 8) (oi := { dst := some 48, op := Go.Op.load 50 (Go.Operand.tmp 47), type := 50, pos := "law.go:155", after := #[{ on := 7, ground := Go.Ground.data }], guard := none }) (v := ?_) rfl (by kernel_rfl) (by kernel_rfl) (by kernel_rfl) (fun _ _ _ h => h) (Or.inl ⟨by rfl, ?_⟩) (by assumption) ?_
        rotate_left
        · intro w hSw; (try dsimp only at hSw); go_simp; (try with_reducible rfl)
        try simp only [Act.put, List.setIfInBounds_toArray, List.set_cons_zero, List.set_cons_succ]
        refine wpAnyH_take (i := 9) (oi := { dst := some 49, op := Go.Op.move (Go.Operand.tmp 6), type := 3, pos := "law.go:155", after := #[], guard := none }) (v := ?_) rfl (by kernel_rfl) (by kernel_rfl) (by kernel_rfl) (fun _ _ _ h => h) (Or.inl ⟨by rfl, ?_⟩) (by assumption) ?_
        rotate_left
        · intro w hSw; (try dsimp only at hSw); go_simp; (try with_reducible rfl)
        try simp only [Act.put, List.setIfInBounds_toArray, List.set_cons_zero, List.set_cons_succ]
        refine wpAnyH_ready (rs := [10, 11]) (by kernel_rfl) (by simp) ?_
        refine AllReadyH.cons (o := { dst := some 50, op := Go.Op.call { callee := Go.Callee.value (Go.Operand.func 25), args := #[Go.Operand.tmp 40, Go.Operand.tmp 48, Go.Operand.tmp 49], argTypes := #[44, 50, 3] }, type := 55, pos := "law.go:155", after := #[{ on := 0, ground := Go.Ground.data }, { on := 8, ground := Go.Ground.data }, { on := 9, ground := Go.Ground.data }], guard := none }) rfl (fun K hK => ?_) ?_
        · go_simp
          (go_at_call 25; ((with_reducible refine (P2'.out _).mono ?_); rintro e v2 ⟨rfl, gb2⟩))
          have HV2 : Hid (Below w2.heap.size w2 v2) := Lib.hid (by have h := HT1.out; have hz := h.size; have hz2 : w2.heap.size ≤ T1.heap.size := HT1.out.size; (repeat' (first | (with_reducible assumption) | (with_reducible exact Below.refl _ _) | (with_reducible refine bstep (by with_reducible assumption) ?_) | (with_reducible refine Below.alloc ?_ ?_ _) | (with_reducible refine Below.drew ?_) | (with_reducible refine below_drewN ?_ _) | (with_reducible refine Below.setCell ?_ ?_ _) | go_size)))
          have A1v := blk_later (by simp) gb2 (blk_drew A1)
          refine hK.out _ _ ?_ (fun hHeld10 => ?_)
          · (try dsimp only); (exact fl_of HV2.out)
          clear hK K hHeld
          try simp only [Act.put, List.setIfInBounds_toArray, List.set_cons_zero, List.set_cons_succ]
          refine wpAnyH_ready (rs := [11]) (by kernel_rfl) (by simp) ?_
          refine AllReadyH.cons (o := { dst := some 10, op := Go.Op.alloc 55, type := 0, pos := "law.go:155", after := #[], guard := none }) rfl (fun K hK => ?_) AllReadyH.nil
          go_simp
          refine hK.out _ _ ?_ (fun hHeld11 => ?_)
          · (try dsimp only); (exact fl_of (by have h := HV2.out; have hz := h.size; have hz2 : w2.heap.size ≤ T1.heap.size := HT1.out.size; (repeat' (first | (with_reducible assumption) | (with_reducible exact Below.refl _ _) | (with_reducible refine bstep (by with_reducible assumption) ?_) | (with_reducible refine Below.alloc ?_ ?_ _) | (with_reducible refine Below.drew ?_) | (with_reducible refine below_drewN ?_ _) | (with_reducible refine Below.setCell ?_ ?_ _) | go_size))))
          clear hK K hHeld10
          try simp only [Act.put, List.setIfInBounds_toArray, List.set_cons_zero, List.set_cons_succ]
          refine wpAnyH_ready (rs := [12]) (by kernel_rfl) (by simp) ?_
          refine AllReadyH.cons (o := { dst := none, op := Go.Op.store 55 (Go.Operand.tmp 10) (Go.Operand.tmp 50), type := 0, pos := "law.go:155", after := #[{ on := 11, ground := Go.Ground.data }, { on := 10, ground := Go.Ground.data }, { on := 10, ground := Go.Ground.chain }, { on := 0, ground := Go.Ground.phase }, { on := 1, ground := Go.Ground.phase }, { on := 2, ground := Go.Ground.phase }, { on := 3, ground := Go.Ground.phase }, { on := 4, ground := Go.Ground.phase }, { on := 5, ground := Go.Ground.phase }, { on := 6, ground := Go.Ground.phase }, { on := 7, ground := Go.Ground.phase }, { on := 8, ground := Go.Ground.phase }, { on := 9, ground := Go.Ground.phase }, { on := 10, ground := Go.Ground.phase }, { on := 11, ground := Go.Ground.phase }], guard := none }) rfl (fun K hK => ?_) AllReadyH.nil
          go_simp
          refine hK.out _ _ ?_ (fun hHeld12 => ?_)
          · (try dsimp only); (exact fl_of (by have h := HV2.out; have hz := h.size; have hz2 : w2.heap.size ≤ T1.heap.size := HT1.out.size; (repeat' (first | (with_reducible assumption) | (with_reducible exact Below.refl _ _) | (with_reducible refine bstep (by with_reducible assumption) ?_) | (with_reducible refine Below.alloc ?_ ?_ _) | (with_reducible refine Below.drew ?_) | (with_reducible refine below_drewN ?_ _) | (with_reducible refine Below.setCell ?_ ?_ _) | go_size))))
          clear hK K hHeld11
          try simp only [Act.put, List.setIfInBounds_toArray, List.set_cons_zero, List.set_cons_succ]
          refine wpAnyH_done (by kernel_rfl) ?_ _
          clear hHeld12
          have A2 : ∀ o, (v2.alloc (.cells #[.int .i64 (X2 : Int), .int .i64 (Y2 : Int)] 55)).cell? ⟨v2.heap.size, o, none⟩ = (#[.int .i64 (X2 : Int), .int .i64 (Y2 : Int)] : Array Value)[o]? := new_at rfl _ _
          have A1t : ∀ o, (v2.alloc (.cells #[.int .i64 (X2 : Int), .int .i64 (Y2 : Int)] 55)).cell? ⟨n1', o, none⟩ = (#[.int .i64 (X1 : Int), .int .i64 (Y1 : Int)] : Array Value)[o]? := blk_alloc (by simp) _ A1v
          have HT2 : Hid (Below w2.heap.size w2 (v2.alloc (.cells #[.int .i64 (X2 : Int), .int .i64 (Y2 : Int)] 55))) := Lib.hid (by have h := HV2.out; have hz := h.size; have hz2 : w2.heap.size ≤ T1.heap.size := HT1.out.size; (repeat' (first | (with_reducible assumption) | (with_reducible exact Below.refl _ _) | (with_reducible refine bstep (by with_reducible assumption) ?_) | (with_reducible refine Below.alloc ?_ ?_ _) | (with_reducible refine Below.drew ?_) | (with_reducible refine below_drewN ?_ _) | (with_reducible refine Below.setCell ?_ ?_ _) | go_size)))
          generalize (v2.alloc (.cells #[.int .i64 (X2 : Int), .int .i64 (Y2 : Int)] 55)) = T2 at *
          obtain ⟨n2', hn2⟩ : ∃ n, v2.heap.size = n := ⟨_, rfl⟩
          rw [hn2] at A2 ⊢
          clear A1 A1v
          have A1 := A1t
          clear A1t
          clear hn2 gb2
          clear HV2 v2
          clear K1
          have K2 := fl_of HT2.out
          clear C1
          have C2 := fun o => (K2 w.heap.size o L2).trans (C2 o)
          go_wp2_with fail
          refine wp_region_held_drew (S := (fun w' => (∀ b o, b < w2.heap.size → w'.cell? ⟨b, o, none⟩ = w2.cell? ⟨b, o, none⟩))) (by kernel_rfl) ?_ (fun hHeld => ?_)
          · (try dsimp only); (exact K2)
          refine wpAnyH_take (i := 0) (oi := { dst := some 51, op := Go.Op.load 44 (Go.Operand.tmp 1), type := 44, pos := "law.go:156", after := #[], guard := none }) (v := ?_) rfl (by kernel_rfl) (by kernel_rfl) (by kernel_rfl) (fun _ _ _ h => h) (Or.inl ⟨by rfl, ?_⟩) (by assumption) ?_
          rotate_left
          · intro w hSw; (try dsimp only at hSw); go_simp; (try with_reducible rfl)
          try simp only [Act.put, List.setIfInBounds_toArray, List.set_cons_zero, List.set_cons_succ]
          refine wpAnyH_take (i := 1) (oi := { dst := some 52, op := Go.Op.move (Go.Operand.tmp 3), type := 45, pos := "law.go:156", after := #[], guard := none }) (v := ?_) rfl (by kernel_rfl) (by kernel_rfl) (by kernel_rfl) (fun _ _ _ h => h) (Or.inl ⟨by rfl, ?_⟩) (by assumption) ?_
          rotate_left
          · intro w hSw; (try dsimp only at hSw); go_simp; (try with_reducible rfl)
          try simp only [Act.put, List.setIfInBounds_toArray, List.set_cons_zero, List.set_cons_succ]
          refine wpAnyH_take (i := 2) (oi := { dst := some 53, op := Go.Op.move (Go.Operand.tmp 4), type := 46, pos := "law.go:156", after := #[], guard := none }) (v := ?_) rfl (by kernel_rfl) (by kernel_rfl) (by kernel_rfl) (fun _ _ _ h => h) (Or.inl ⟨by rfl, ?_⟩) (by assumption) ?_
          rotate_left
          · intro w hSw; (try dsimp only at hSw); go_simp; (try with_reducible rfl)
          try simp only [Act.put, List.setIfInBounds_toArray, List.set_cons_zero, List.set_cons_succ]
          refine wpAnyH_take (i := 3) (oi := { dst := some 54, op := Go.Op.move (Go.Operand.tmp 8), type := 3, pos := "law.go:156", after := #[], guard := none }) (v := ?_) rfl (by kernel_rfl) (by kernel_rfl) (by kernel_rfl) (fun _ _ _ h => h) (Or.inl ⟨by rfl, ?_⟩) (by assumption) ?_
          rotate_left
          · intro w hSw; (try dsimp only at hSw); go_simp; (try with_reducible rfl)
          try simp only [Act.put, List.setIfInBounds_toArray, List.set_cons_zero, List.set_cons_succ]
          refine wpAnyH_take (i := 4) (oi := { dst := some 55, op := Go.Op.indexAddr 46 (Go.Operand.tmp 53) (Go.Operand.tmp 54), type := 0, pos := "law.go:156", after := #[{ on := 2, ground := Go.Ground.data }, { on := 3, ground := Go.Ground.data }], guard := none }) (v := ?_) rfl (by kernel_rfl) (by kernel_rfl) (by kernel_rfl) (fun _ _ _ h => h) (Or.inl ⟨by rfl, ?_⟩) (by assumption) ?_
          rotate_left
          · intro w hSw; (try dsimp only at hSw); go_simp; (try with_reducible rfl)
          try simp only [Act.put, List.setIfInBounds_toArray, List.set_cons_zero, List.set_cons_succ]
          refine wpAnyH_take (i := 5) (oi := { dst := some 56, op := Go.Op.indexAddr 51 (Go.Operand.tmp 55) (Go.Operand.const (Go.Value.int Go.IntKind.i64 2)), type := 0, pos := "law.go:156", after := #[{ on := 4, ground := Go.Ground.data }], guard := none }) (v := ?_) rfl (by kernel_rfl) (by kernel_rfl) (by kernel_rfl) (fun _ _ _ h => h) (Or.inl ⟨by rfl, ?_⟩) (by assumption) ?_
          rotate_left
          · intro w hSw; (try dsimp only at hSw); go_simp; (try with_reducible rfl)
          try simp only [Act.put, List.setIfInBounds_toArray, List.set_cons_zero, List.set_cons_succ]
          refine wpAnyH_take (i := 6) (oi := { dst := some 57, op := Go.Op.load 3 (Go.Operand.tmp 56), type := 3, pos := "law.go:156", after := #[{ on := 5, ground := Go.Ground.data }], guard := none }) (v := ?_) rfl (by kernel_rfl) (by kernel_rfl) (by kernel_rfl) (fun _ _ _ h => h) (Or.inl ⟨by rfl, ?_⟩) (by assumption) ?_
          rotate_left
          · intro w hSw; (try dsimp only at hSw); go_simp; (try with_reducible rfl)
          try simp only [Act.put, List.setIfInBounds_toArray, List.set_cons_zero, List.set_cons_succ]
          refine wpAnyH_take (i := 7) (oi := { dst := some 58, op := Go.Op.indexAddr 45 (Go.Operand.tmp 52) (Go.Operand.tmp 57), type := 0, pos := "law.go:156", after := #[{ on := 1, ground := Go.Ground.data }, { on := 6, ground := Go.Ground.data }], guard := none }) (v := ?_) rfl (by kernel_rfl) (by kernel_rfl) (by kernel_rfl) (fun _ _ _ h => h) (Or.inl ⟨by rfl, ?_⟩) (by assumption) ?_
          rotate_left
          · intro w hSw; (try dsimp only at hSw); go_simp; (try with_reducible rfl)
          try simp only [Act.put, List.setIfInBounds_toArray, List.set_cons_zero, List.set_cons_succ]
          refine wpAnyH_take (i := 8) (oi := { dst := some 59, op := Go.Op.load 50 (Go.Operand.tmp 58), type := 50, pos := "law.go:156", after := #[{ on := 7, ground := Go.Ground.data }], guard := none }) (v := ?_) rfl (by kernel_rfl) (by kernel_rfl) (by kernel_rfl) (fun _ _ _ h => h) (Or.inl ⟨by rfl, ?_⟩) (by assumption) ?_
          rotate_left
          · intro w hSw; (try dsimp only at hSw); go_simp; (try with_reducible rfl)
          try simp only [Act.put, List.setIfInBounds_toArray, List.set_cons_zero, List.set_cons_succ]
          refine wpAnyH_take (i := 9) (oi := { dst := some 60, op := Go.Op.move (Go.Operand.tmp 6), type := 3, pos := "law.go:156", after := #[], guard := none }) (v := ?_) rfl (by kernel_rfl) (by kernel_rfl) (by kernel_rfl) (fun _ _ _ h => h) (Or.inl ⟨by rfl, ?_⟩) (by assumption) ?_
          rotate_left
          · intro w hSw; (try dsimp only at hSw); go_simp; (try with_reducible rfl)
          try simp only [Act.put, List.setIfInBounds_toArray, List.set_cons_zero, List.set_cons_succ]
          refine wpAnyH_ready (rs := [10, 11]) (by kernel_rfl) (by simp) ?_
          refine AllReadyH.cons (o := { dst := some 61, op := Go.Op.call { callee := Go.Callee.value (Go.Operand.func 25), args := #[Go.Operand.tmp 51, Go.Operand.tmp 59, Go.Operand.tmp 60], argTypes := #[44, 50, 3] }, type := 55, pos := "law.go:156", after := #[{ on := 0, ground := Go.Ground.data }, { on := 8, ground := Go.Ground.data }, { on := 9, ground := Go.Ground.data }], guard := none }) rfl (fun K hK => ?_) ?_
          · go_simp
            (go_at_call 25; ((with_reducible refine (P3.out _).mono ?_); rintro e v3 ⟨rfl, gb3⟩))
            have HV3 : Hid (Below w2.heap.size w2 v3) := Lib.hid (by have h := HT2.out; have hz := h.size; have hz2 : w2.heap.size ≤ T2.heap.size := HT2.out.size; (repeat' (first | (with_reducible assumption) | (with_reducible exact Below.refl _ _) | (with_reducible refine bstep (by with_reducible assumption) ?_) | (with_reducible refine Below.alloc ?_ ?_ _) | (with_reducible refine Below.drew ?_) | (with_reducible refine below_drewN ?_ _) | (with_reducible refine Below.setCell ?_ ?_ _) | go_size)))
            have A1v := blk_later (by simp) gb3 (blk_drew A1)
            have A2v := blk_later (by simp) gb3 (blk_drew A2)
            refine hK.out _ _ ?_ (fun hHeld10 => ?_)
            · (try dsimp only); (exact fl_of HV3.out)
            clear hK K hHeld
            try simp only [Act.put, List.setIfInBounds_toArray, List.set_cons_zero, List.set_cons_succ]
            refine wpAnyH_ready (rs := [11]) (by kernel_rfl) (by simp) ?_
            refine AllReadyH.cons (o := { dst := some 11, op := Go.Op.alloc 55, type := 0, pos := "law.go:156", after := #[], guard := none }) rfl (fun K hK => ?_) AllReadyH.nil
            go_simp
            refine hK.out _ _ ?_ (fun hHeld11 => ?_)
            · (try dsimp only); (exact fl_of (by have h := HV3.out; have hz := h.size; have hz2 : w2.heap.size ≤ T2.heap.size := HT2.out.size; (repeat' (first | (with_reducible assumption) | (with_reducible exact Below.refl _ _) | (with_reducible refine bstep (by with_reducible assumption) ?_) | (with_reducible refine Below.alloc ?_ ?_ _) | (with_reducible refine Below.drew ?_) | (with_reducible refine below_drewN ?_ _) | (with_reducible refine Below.setCell ?_ ?_ _) | go_size))))
            clear hK K hHeld10
            try simp only [Act.put, List.setIfInBounds_toArray, List.set_cons_zero, List.set_cons_succ]
            refine wpAnyH_ready (rs := [12]) (by kernel_rfl) (by simp) ?_
            refine AllReadyH.cons (o := { dst := none, op := Go.Op.store 55 (Go.Operand.tmp 11) (Go.Operand.tmp 61), type := 0, pos := "law.go:156", after := #[{ on := 11, ground := Go.Ground.data }, { on := 10, ground := Go.Ground.data }, { on := 10, ground := Go.Ground.chain }, { on := 0, ground := Go.Ground.phase }, { on := 1, ground := Go.Ground.phase }, { on := 2, ground := Go.Ground.phase }, { on := 3, ground := Go.Ground.phase }, { on := 4, ground := Go.Ground.phase }, { on := 5, ground := Go.Ground.phase }, { on := 6, ground := Go.Ground.phase }, { on := 7, ground := Go.Ground.phase }, { on := 8, ground := Go.Ground.phase }, { on := 9, ground := Go.Ground.phase }, { on := 10, ground := Go.Ground.phase }, { on := 11, ground := Go.Ground.phase }], guard := none }) rfl (fun K hK => ?_) AllReadyH.nil
            go_simp
            refine hK.out _ _ ?_ (fun hHeld12 => ?_)
            · (try dsimp only); (exact fl_of (by have h := HV3.out; have hz := h.size; have hz2 : w2.heap.size ≤ T2.heap.size := HT2.out.size; (repeat' (first | (with_reducible assumption) | (with_reducible exact Below.refl _ _) | (with_reducible refine bstep (by with_reducible assumption) ?_) | (with_reducible refine Below.alloc ?_ ?_ _) | (with_reducible refine Below.drew ?_) | (with_reducible refine below_drewN ?_ _) | (with_reducible refine Below.setCell ?_ ?_ _) | go_size))))
            clear hK K hHeld11
            try simp only [Act.put, List.setIfInBounds_toArray, List.set_cons_zero, List.set_cons_succ]
            refine wpAnyH_done (by kernel_rfl) ?_ _
            clear hHeld12
            have A3 : ∀ o, (v3.alloc (.cells #[.int .i64 (X3 : Int), .int .i64 (Y3 : Int)] 55)).cell? ⟨v3.heap.size, o, none⟩ = (#[.int .i64 (X3 : Int), .int .i64 (Y3 : Int)] : Array Value)[o]? := new_at rfl _ _
            have A1t : ∀ o, (v3.alloc (.cells #[.int .i64 (X3 : Int), .int .i64 (Y3 : Int)] 55)).cell? ⟨n1', o, none⟩ = (#[.int .i64 (X1 : Int), .int .i64 (Y1 : Int)] : Array Value)[o]? := blk_alloc (by simp) _ A1v
            have A2t : ∀ o, (v3.alloc (.cells #[.int .i64 (X3 : Int), .int .i64 (Y3 : Int)] 55)).cell? ⟨n2', o, none⟩ = (#[.int .i64 (X2 : Int), .int .i64 (Y2 : Int)] : Array Value)[o]? := blk_alloc (by simp) _ A2v
            have HT3 : Hid (Below w2.heap.size w2 (v3.alloc (.cells #[.int .i64 (X3 : Int), .int .i64 (Y3 : Int)] 55))) := Lib.hid (by have h := HV3.out; have hz := h.size; have hz2 : w2.heap.size ≤ T2.heap.size := HT2.out.size; (repeat' (first | (with_reducible assumption) | (with_reducible exact Below.refl _ _) | (with_reducible refine bstep (by with_reducible assumption) ?_) | (with_reducible refine Below.alloc ?_ ?_ _) | (with_reducible refine Below.drew ?_) | (with_reducible refine below_drewN ?_ _) | (with_reducible refine Below.setCell ?_ ?_ _) | go_size)))
            generalize (v3.alloc (.cells #[.int .i64 (X3 : Int), .int .i64 (Y3 : Int)] 55)) = T3 at *
            obtain ⟨n3', hn3⟩ : ∃ n, v3.heap.size = n := ⟨_, rfl⟩
            rw [hn3] at A3 ⊢
            clear A1 A1v
            have A1 := A1t
            clear A1t
            clear A2 A2v
            have A2 := A2t
            clear A2t
            clear hn3 gb3
            clear HV3 v3
            clear K2
            have K3 := fl_of HT3.out
            clear C2
            have C3 := fun o => (K3 w.heap.size o L2).trans (C2 o)
            go_wp2_with fail
            go_roundg (M - (j + 1))
            case measure => omega
            case rel => exact ⟨j + 1, by omega, rfl, by rw [HSX.out], by simp, by first | exact HT3.out | exact HT3.out.drew | exact below_drewN HT3.out _⟩
          refine AllReadyH.cons (o := { dst := some 11, op := Go.Op.alloc 55, type := 0, pos := "law.go:156", after := #[], guard := none }) rfl (fun K hK => ?_) ?_
          · go_simp
            refine hK.out _ _ ?_ (fun hHeld11 => ?_)
            · (try dsimp only); (exact fl_of (by have h := HT2.out; have hz := h.size; have hz2 : w2.heap.size ≤ T2.heap.size := HT2.out.size; (repeat' (first | (with_reducible assumption) | (with_reducible exact Below.refl _ _) | (with_reducible refine bstep (by with_reducible assumption) ?_) | (with_reducible refine Below.alloc ?_ ?_ _) | (with_reducible refine Below.drew ?_) | (with_reducible refine below_drewN ?_ _) | (with_reducible refine Below.setCell ?_ ?_ _) | go_size))))
            clear hK K hHeld
            try simp only [Act.put, List.setIfInBounds_toArray, List.set_cons_zero, List.set_cons_succ]
            refine wpAnyH_ready (rs := [10]) (by kernel_rfl) (by simp) ?_
            refine AllReadyH.cons (o := { dst := some 61, op := Go.Op.call { callee := Go.Callee.value (Go.Operand.func 25), args := #[Go.Operand.tmp 51, Go.Operand.tmp 59, Go.Operand.tmp 60], argTypes := #[44, 50, 3] }, type := 55, pos := "law.go:156", after := #[{ on := 0, ground := Go.Ground.data }, { on := 8, ground := Go.Ground.data }, { on := 9, ground := Go.Ground.data }], guard := none }) rfl (fun K hK => ?_) AllReadyH.nil
            go_simp
            (go_at_call 25; ((with_reducible refine (P3.out _).mono ?_); rintro e v3 ⟨rfl, gb3⟩))
            have HV3 : Hid (Below w2.heap.size w2 v3) := Lib.hid (by have h := HT2.out; have hz := h.size; have hz2 : w2.heap.size ≤ T2.heap.size := HT2.out.size; (repeat' (first | (with_reducible assumption) | (with_reducible exact Below.refl _ _) | (with_reducible refine bstep (by with_reducible assumption) ?_) | (with_reducible refine Below.alloc ?_ ?_ _) | (with_reducible refine Below.drew ?_) | (with_reducible refine below_drewN ?_ _) | (with_reducible refine Below.setCell ?_ ?_ _) | go_size)))
            have A1v := blk_later (by simp) gb3 (blk_alloc (by simp) _ (blk_drew A1))
            have A2v := blk_later (by simp) gb3 (blk_alloc (by simp) _ (blk_drew A2))
            have D3 : ∀ o, v3.cell? ⟨T2.heap.size, o, none⟩ = (#[.int .i64 0, .int .i64 0] : Array Value)[o]? := blk_later (by simp) gb3 (new_at rfl _ _)
            have E3 : ∀ o, v3.frozen? ⟨T2.heap.size, o, none⟩ = false := fro_call gb3 (fro_new rfl _ _) (lt_new rfl)
            have s3 : T2.heap.size < v3.heap.size := blk_lt (by simp) D3
            refine hK.out _ _ ?_ (fun hHeld10 => ?_)
            · (try dsimp only); (exact fl_of HV3.out)
            clear hK K hHeld11
            try simp only [Act.put, List.setIfInBounds_toArray, List.set_cons_zero, List.set_cons_succ]
            refine wpAnyH_ready (rs := [12]) (by kernel_rfl) (by simp) ?_
            refine AllReadyH.cons (o := { dst := none, op := Go.Op.store 55 (Go.Operand.tmp 11) (Go.Operand.tmp 61), type := 0, pos := "law.go:156", after := #[{ on := 11, ground := Go.Ground.data }, { on := 10, ground := Go.Ground.data }, { on := 10, ground := Go.Ground.chain }, { on := 0, ground := Go.Ground.phase }, { on := 1, ground := Go.Ground.phase }, { on := 2, ground := Go.Ground.phase }, { on := 3, ground := Go.Ground.phase }, { on := 4, ground := Go.Ground.phase }, { on := 5, ground := Go.Ground.phase }, { on := 6, ground := Go.Ground.phase }, { on := 7, ground := Go.Ground.phase }, { on := 8, ground := Go.Ground.phase }, { on := 9, ground := Go.Ground.phase }, { on := 10, ground := Go.Ground.phase }, { on := 11, ground := Go.Ground.phase }], guard := none }) rfl (fun K hK => ?_) AllReadyH.nil
            go_simp
            refine hK.out _ _ ?_ (fun hHeld12 => ?_)
            · (try dsimp only); (exact fl_of (by have h := HV3.out; have hz := h.size; have hz2 : w2.heap.size ≤ T2.heap.size := HT2.out.size; (repeat' (first | (with_reducible assumption) | (with_reducible exact Below.refl _ _) | (with_reducible refine bstep (by with_reducible assumption) ?_) | (with_reducible refine Below.alloc ?_ ?_ _) | (with_reducible refine Below.drew ?_) | (with_reducible refine below_drewN ?_ _) | (with_reducible refine Below.setCell ?_ ?_ _) | go_size))))
            clear hK K hHeld10
            try simp only [Act.put, List.setIfInBounds_toArray, List.set_cons_zero, List.set_cons_succ]
            refine wpAnyH_done (by kernel_rfl) ?_ _
            clear hHeld12
            have A3 : ∀ o, ((v3.setCell ⟨T2.heap.size, 0, none⟩ (.int .i64 (X3 : Int))).setCell ⟨T2.heap.size, 1, none⟩ (.int .i64 (Y3 : Int))).cell? ⟨T2.heap.size, o, none⟩ = (#[.int .i64 (X3 : Int), .int .i64 (Y3 : Int)] : Array Value)[o]? := st2_blk D3 _ _
            have A1t : ∀ o, ((v3.setCell ⟨T2.heap.size, 0, none⟩ (.int .i64 (X3 : Int))).setCell ⟨T2.heap.size, 1, none⟩ (.int .i64 (Y3 : Int))).cell? ⟨n1', o, none⟩ = (#[.int .i64 (X1 : Int), .int .i64 (Y1 : Int)] : Array Value)[o]? := st2_far (Nat.ne_of_gt (blk_lt (by simp) A1)) A1v
            have A2t : ∀ o, ((v3.setCell ⟨T2.heap.size, 0, none⟩ (.int .i64 (X3 : Int))).setCell ⟨T2.heap.size, 1, none⟩ (.int .i64 (Y3 : Int))).cell? ⟨n2', o, none⟩ = (#[.int .i64 (X2 : Int), .int .i64 (Y2 : Int)] : Array Value)[o]? := st2_far (Nat.ne_of_gt (blk_lt (by simp) A2)) A2v
            have HT3 : Hid (Below w2.heap.size w2 ((v3.setCell ⟨T2.heap.size, 0, none⟩ (.int .i64 (X3 : Int))).setCell ⟨T2.heap.size, 1, none⟩ (.int .i64 (Y3 : Int)))) := Lib.hid (by have h := HV3.out; have hz := h.size; have hz2 : w2.heap.size ≤ T2.heap.size := HT2.out.size; (repeat' (first | (with_reducible assumption) | (with_reducible exact Below.refl _ _) | (with_reducible refine bstep (by with_reducible assumption) ?_) | (with_reducible refine Below.alloc ?_ ?_ _) | (with_reducible refine Below.drew ?_) | (with_reducible refine below_drewN ?_ _) | (with_reducible refine Below.setCell ?_ ?_ _) | go_size)))
            generalize ((v3.setCell ⟨T2.heap.size, 0, none⟩ (.int .i64 (X3 : Int))).setCell ⟨T2.heap.size, 1, none⟩ (.int .i64 (Y3 : Int))) = T3 at *
            obtain ⟨n3', hn3⟩ : ∃ n, T2.heap.size = n := ⟨_, rfl⟩
            rw [hn3] at A3 ⊢
            clear A1 A1v
            have A1 := A1t
            clear A1t
            clear A2 A2v
            have A2 := A2t
            clear A2t
            clear hn3 D3 E3 s3 gb3
            clear HV3 v3
            clear K2
            have K3 := fl_of HT3.out
            clear C2
            have C3 := fun o => (K3 w.heap.size o L2).trans (C2 o)
            go_wp2_with fail
            go_roundg (M - (j + 1))
            case measure => omega
            case rel => exact ⟨j + 1, by omega, rfl, by rw [HSX.out], by simp, by first | exact HT3.out | exact HT3.out.drew | exact below_drewN HT3.out _⟩
          exact AllReadyH.nil
        refine AllReadyH.cons (o := { dst := some 10, op := Go.Op.alloc 55, type := 0, pos := "law.go:155", after := #[], guard := none }) rfl (fun K hK => ?_) ?_
        · go_simp
          refine hK.out _ _ ?_ (fun hHeld11 => ?_)
          · (try dsimp only); (exact fl_of (by have h := HT1.out; have hz := h.size; have hz2 : w2.heap.size ≤ T1.heap.size := HT1.out.size; (repeat' (first | (with_reducible assumption) | (with_reducible exact Below.refl _ _) | (with_reducible refine bstep (by with_reducible assumption) ?_) | (with_reducible refine Below.alloc ?_ ?_ _) | (with_reducible refine Below.drew ?_) | (with_reducible refine below_drewN ?_ _) | (with_reducible refine Below.setCell ?_ ?_ _) | go_size))))
          clear hK K hHeld
          try simp only [Act.put, List.setIfInBounds_toArray, List.set_cons_zero, List.set_cons_succ]
          refine wpAnyH_ready (rs := [10]) (by kernel_rfl) (by simp) ?_
          refine AllReadyH.cons (o := { dst := some 50, op := Go.Op.call { callee := Go.Callee.value (Go.Operand.func 25), args := #[Go.Operand.tmp 40, Go.Operand.tmp 48, Go.Operand.tmp 49], argTypes := #[44, 50, 3] }, type := 55, pos := "law.go:155", after := #[{ on := 0, ground := Go.Ground.data }, { on := 8, ground := Go.Ground.data }, { on := 9, ground := Go.Ground.data }], guard := none }) rfl (fun K hK => ?_) AllReadyH.nil
          go_simp
          (go_at_call 25; ((with_reducible refine (P2'.out _).mono ?_); rintro e v2 ⟨rfl, gb2⟩))
          have HV2 : Hid (Below w2.heap.size w2 v2) := Lib.hid (by have h := HT1.out; have hz := h.size; have hz2 : w2.heap.size ≤ T1.heap.size := HT1.out.size; (repeat' (first | (with_reducible assumption) | (with_reducible exact Below.refl _ _) | (with_reducible refine bstep (by with_reducible assumption) ?_) | (with_reducible refine Below.alloc ?_ ?_ _) | (with_reducible refine Below.drew ?_) | (with_reducible refine below_drewN ?_ _) | (with_reducible refine Below.setCell ?_ ?_ _) | go_size)))
          have A1v := blk_later (by simp) gb2 (blk_alloc (by simp) _ (blk_drew A1))
          have D2 : ∀ o, v2.cell? ⟨T1.heap.size, o, none⟩ = (#[.int .i64 0, .int .i64 0] : Array Value)[o]? := blk_later (by simp) gb2 (new_at rfl _ _)
          have E2 : ∀ o, v2.frozen? ⟨T1.heap.size, o, none⟩ = false := fro_call gb2 (fro_new rfl _ _) (lt_new rfl)
          have s2 : T1.heap.size < v2.heap.size := blk_lt (by simp) D2
          refine hK.out _ _ ?_ (fun hHeld10 => ?_)
          · (try dsimp only); (exact fl_of HV2.out)
          clear hK K hHeld11
          try simp only [Act.put, List.setIfInBounds_toArray, List.set_cons_zero, List.set_cons_succ]
          refine wpAnyH_ready (rs := [12]) (by kernel_rfl) (by simp) ?_
          refine AllReadyH.cons (o := { dst := none, op := Go.Op.store 55 (Go.Operand.tmp 10) (Go.Operand.tmp 50), type := 0, pos := "law.go:155", after := #[{ on := 11, ground := Go.Ground.data }, { on := 10, ground := Go.Ground.data }, { on := 10, ground := Go.Ground.chain }, { on := 0, ground := Go.Ground.phase }, { on := 1, ground := Go.Ground.phase }, { on := 2, ground := Go.Ground.phase }, { on := 3, ground := Go.Ground.phase }, { on := 4, ground := Go.Ground.phase }, { on := 5, ground := Go.Ground.phase }, { on := 6, ground := Go.Ground.phase }, { on := 7, ground := Go.Ground.phase }, { on := 8, ground := Go.Ground.phase }, { on := 9, ground := Go.Ground.phase }, { on := 10, ground := Go.Ground.phase }, { on := 11, ground := Go.Ground.phase }], guard := none }) rfl (fun K hK => ?_) AllReadyH.nil
          go_simp
          refine hK.out _ _ ?_ (fun hHeld12 => ?_)
          · (try dsimp only); (exact fl_of (by have h := HV2.out; have hz := h.size; have hz2 : w2.heap.size ≤ T1.heap.size := HT1.out.size; (repeat' (first | (with_reducible assumption) | (with_reducible exact Below.refl _ _) | (with_reducible refine bstep (by with_reducible assumption) ?_) | (with_reducible refine Below.alloc ?_ ?_ _) | (with_reducible refine Below.drew ?_) | (with_reducible refine below_drewN ?_ _) | (with_reducible refine Below.setCell ?_ ?_ _) | go_size))))
          clear hK K hHeld10
          try simp only [Act.put, List.setIfInBounds_toArray, List.set_cons_zero, List.set_cons_succ]
          refine wpAnyH_done (by kernel_rfl) ?_ _
          clear hHeld12
          have A2 : ∀ o, ((v2.setCell ⟨T1.heap.size, 0, none⟩ (.int .i64 (X2 : Int))).setCell ⟨T1.heap.size, 1, none⟩ (.int .i64 (Y2 : Int))).cell? ⟨T1.heap.size, o, none⟩ = (#[.int .i64 (X2 : Int), .int .i64 (Y2 : Int)] : Array Value)[o]? := st2_blk D2 _ _
          have A1t : ∀ o, ((v2.setCell ⟨T1.heap.size, 0, none⟩ (.int .i64 (X2 : Int))).setCell ⟨T1.heap.size, 1, none⟩ (.int .i64 (Y2 : Int))).cell? ⟨n1', o, none⟩ = (#[.int .i64 (X1 : Int), .int .i64 (Y1 : Int)] : Array Value)[o]? := st2_far (Nat.ne_of_gt (blk_lt (by simp) A1)) A1v
          have HT2 : Hid (Below w2.heap.size w2 ((v2.setCell ⟨T1.heap.size, 0, none⟩ (.int .i64 (X2 : Int))).setCell ⟨T1.heap.size, 1, none⟩ (.int .i64 (Y2 : Int)))) := Lib.hid (by have h := HV2.out; have hz := h.size; have hz2 : w2.heap.size ≤ T1.heap.size := HT1.out.size; (repeat' (first | (with_reducible assumption) | (with_reducible exact Below.refl _ _) | (with_reducible refine bstep (by with_reducible assumption) ?_) | (with_reducible refine Below.alloc ?_ ?_ _) | (with_reducible refine Below.drew ?_) | (with_reducible refine below_drewN ?_ _) | (with_reducible refine Below.setCell ?_ ?_ _) | go_size)))
          generalize ((v2.setCell ⟨T1.heap.size, 0, none⟩ (.int .i64 (X2 : Int))).setCell ⟨T1.heap.size, 1, none⟩ (.int .i64 (Y2 : Int))) = T2 at *
          obtain ⟨n2', hn2⟩ : ∃ n, T1.heap.size = n := ⟨_, rfl⟩
          rw [hn2] at A2 ⊢
          clear A1 A1v
          have A1 := A1t
          clear A1t
          clear hn2 D2 E2 s2 gb2
          clear HV2 v2
          clear K1
          have K2 := fl_of HT2.out
          clear C1
          have C2 := fun o => (K2 w.heap.size o L2).trans (C2 o)
          go_wp2_with fail
          refine wp_region_held_drew (S := (fun w' => (∀ b o, b < w2.heap.size → w'.cell? ⟨b, o, none⟩ = w2.cell? ⟨b, o, none⟩))) (by kernel_rfl) ?_ (fun hHeld => ?_)
          · (try dsimp only); (exact K2)
          refine wpAnyH_take (i := 0) (oi := { dst := some 51, op := Go.Op.load 44 (Go.Operand.tmp 1), type := 44, pos := "law.go:156", after := #[], guard := none }) (v := ?_) rfl (by kernel_rfl) (by kernel_rfl) (by kernel_rfl) (fun _ _ _ h => h) (Or.inl ⟨by rfl, ?_⟩) (by assumption) ?_
          rotate_left
          · intro w hSw; (try dsimp only at hSw); go_simp; (try with_reducible rfl)
          try simp only [Act.put, List.setIfInBounds_toArray, List.set_cons_zero, List.set_cons_succ]
          refine wpAnyH_take (i := 1) (oi := { dst := some 52, op := Go.Op.move (Go.Operand.tmp 3), type := 45, pos := "law.go:156", after := #[], guard := none }) (v := ?_) rfl (by kernel_rfl) (by kernel_rfl) (by kernel_rfl) (fun _ _ _ h => h) (Or.inl ⟨by rfl, ?_⟩) (by assumption) ?_
          rotate_left
          · intro w hSw; (try dsimp only at hSw); go_simp; (try with_reducible rfl)
          try simp only [Act.put, List.setIfInBounds_toArray, List.set_cons_zero, List.set_cons_succ]
          refine wpAnyH_take (i := 2) (oi := { dst := some 53, op := Go.Op.move (Go.Operand.tmp 4), type := 46, pos := "law.go:156", after := #[], guard := none }) (v := ?_) rfl (by kernel_rfl) (by kernel_rfl) (by kernel_rfl) (fun _ _ _ h => h) (Or.inl ⟨by rfl, ?_⟩) (by assumption) ?_
          rotate_left
          · intro w hSw; (try dsimp only at hSw); go_simp; (try with_reducible rfl)
          try simp only [Act.put, List.setIfInBounds_toArray, List.set_cons_zero, List.set_cons_succ]
          refine wpAnyH_take (i := 3) (oi := { dst := some 54, op := Go.Op.move (Go.Operand.tmp 8), type := 3, pos := "law.go:156", after := #[], guard := none }) (v := ?_) rfl (by kernel_rfl) (by kernel_rfl) (by kernel_rfl) (fun _ _ _ h => h) (Or.inl ⟨by rfl, ?_⟩) (by assumption) ?_
          rotate_left
          · intro w hSw; (try dsimp only at hSw); go_simp; (try with_reducible rfl)
          try simp only [Act.put, List.setIfInBounds_toArray, List.set_cons_zero, List.set_cons_succ]
          refine wpAnyH_take (i := 4) (oi := { dst := some 55, op := Go.Op.indexAddr 46 (Go.Operand.tmp 53) (Go.Operand.tmp 54), type := 0, pos := "law.go:156", after := #[{ on := 2, ground := Go.Ground.data }, { on := 3, ground := Go.Ground.data }], guard := none }) (v := ?_) rfl (by kernel_rfl) (by kernel_rfl) (by kernel_rfl) (fun _ _ _ h => h) (Or.inl ⟨by rfl, ?_⟩) (by assumption) ?_
          rotate_left
          · intro w hSw; (try dsimp only at hSw); go_simp; (try with_reducible rfl)
          try simp only [Act.put, List.setIfInBounds_toArray, List.set_cons_zero, List.set_cons_succ]
          refine wpAnyH_take (i := 5) (oi := { dst := some 56, op := Go.Op.indexAddr 51 (Go.Operand.tmp 55) (Go.Operand.const (Go.Value.int Go.IntKind.i64 2)), type := 0, pos := "law.go:156", after := #[{ on := 4, ground := Go.Ground.data }], guard := none }) (v := ?_) rfl (by kernel_rfl) (by kernel_rfl) (by kernel_rfl) (fun _ _ _ h => h) (Or.inl ⟨by rfl, ?_⟩) (by assumption) ?_
          rotate_left
          · intro w hSw; (try dsimp only at hSw); go_simp; (try with_reducible rfl)
          try simp only [Act.put, List.setIfInBounds_toArray, List.set_cons_zero, List.set_cons_succ]
          refine wpAnyH_take (i := 6) (oi := { dst := some 57, op := Go.Op.load 3 (Go.Operand.tmp 56), type := 3, pos := "law.go:156", after := #[{ on := 5, ground := Go.Ground.data }], guard := none }) (v := ?_) rfl (by kernel_rfl) (by kernel_rfl) (by kernel_rfl) (fun _ _ _ h => h) (Or.inl ⟨by rfl, ?_⟩) (by assumption) ?_
          rotate_left
          · intro w hSw; (try dsimp only at hSw); go_simp; (try with_reducible rfl)
          try simp only [Act.put, List.setIfInBounds_toArray, List.set_cons_zero, List.set_cons_succ]
          refine wpAnyH_take (i := 7) (oi := { dst := some 58, op := Go.Op.indexAddr 45 (Go.Operand.tmp 52) (Go.Operand.tmp 57), type := 0, pos := "law.go:156", after := #[{ on := 1, ground := Go.Ground.data }, { on := 6, ground := Go.Ground.data }], guard := none }) (v := ?_) rfl (by kernel_rfl) (by kernel_rfl) (by kernel_rfl) (fun _ _ _ h => h) (Or.inl ⟨by rfl, ?_⟩) (by assumption) ?_
          rotate_left
          · intro w hSw; (try dsimp only at hSw); go_simp; (try with_reducible rfl)
          try simp only [Act.put, List.setIfInBounds_toArray, List.set_cons_zero, List.set_cons_succ]
          refine wpAnyH_take (i := 8) (oi := { dst := some 59, op := Go.Op.load 50 (Go.Operand.tmp 58), type := 50, pos := "law.go:156", after := #[{ on := 7, ground := Go.Ground.data }], guard := none }) (v := ?_) rfl (by kernel_rfl) (by kernel_rfl) (by kernel_rfl) (fun _ _ _ h => h) (Or.inl ⟨by rfl, ?_⟩) (by assumption) ?_
          rotate_left
          · intro w hSw; (try dsimp only at hSw); go_simp; (try with_reducible rfl)
          try simp only [Act.put, List.setIfInBounds_toArray, List.set_cons_zero, List.set_cons_succ]
          refine wpAnyH_take (i := 9) (oi := { dst := some 60, op := Go.Op.move (Go.Operand.tmp 6), type := 3, pos := "law.go:156", after := #[], guard := none }) (v := ?_) rfl (by kernel_rfl) (by kernel_rfl) (by kernel_rfl) (fun _ _ _ h => h) (Or.inl ⟨by rfl, ?_⟩) (by assumption) ?_
          rotate_left
          · intro w hSw; (try dsimp only at hSw); go_simp; (try with_reducible rfl)
          try simp only [Act.put, List.setIfInBounds_toArray, List.set_cons_zero, List.set_cons_succ]
          refine wpAnyH_ready (rs := [10, 11]) (by kernel_rfl) (by simp) ?_
          refine AllReadyH.cons (o := { dst := some 61, op := Go.Op.call { callee := Go.Callee.value (Go.Operand.func 25), args := #[Go.Operand.tmp 51, Go.Operand.tmp 59, Go.Operand.tmp 60], argTypes := #[44, 50, 3] }, type := 55, pos := "law.go:156", after := #[{ on := 0, ground := Go.Ground.data }, { on := 8, ground := Go.Ground.data }, { on := 9, ground := Go.Ground.data }], guard := none }) rfl (fun K hK => ?_) ?_
          · go_simp
            (go_at_call 25; ((with_reducible refine (P3.out _).mono ?_); rintro e v3 ⟨rfl, gb3⟩))
            have HV3 : Hid (Below w2.heap.size w2 v3) := Lib.hid (by have h := HT2.out; have hz := h.size; have hz2 : w2.heap.size ≤ T2.heap.size := HT2.out.size; (repeat' (first | (with_reducible assumption) | (with_reducible exact Below.refl _ _) | (with_reducible refine bstep (by with_reducible assumption) ?_) | (with_reducible refine Below.alloc ?_ ?_ _) | (with_reducible refine Below.drew ?_) | (with_reducible refine below_drewN ?_ _) | (with_reducible refine Below.setCell ?_ ?_ _) | go_size)))
            have A1v := blk_later (by simp) gb3 (blk_drew A1)
            have A2v := blk_later (by simp) gb3 (blk_drew A2)
            refine hK.out _ _ ?_ (fun hHeld10 => ?_)
            · (try dsimp only); (exact fl_of HV3.out)
            clear hK K hHeld
            try simp only [Act.put, List.setIfInBounds_toArray, List.set_cons_zero, List.set_cons_succ]
            refine wpAnyH_ready (rs := [11]) (by kernel_rfl) (by simp) ?_
            refine AllReadyH.cons (o := { dst := some 11, op := Go.Op.alloc 55, type := 0, pos := "law.go:156", after := #[], guard := none }) rfl (fun K hK => ?_) AllReadyH.nil
            go_simp
            refine hK.out _ _ ?_ (fun hHeld11 => ?_)
            · (try dsimp only); (exact fl_of (by have h := HV3.out; have hz := h.size; have hz2 : w2.heap.size ≤ T2.heap.size := HT2.out.size; (repeat' (first | (with_reducible assumption) | (with_reducible exact Below.refl _ _) | (with_reducible refine bstep (by with_reducible assumption) ?_) | (with_reducible refine Below.alloc ?_ ?_ _) | (with_reducible refine Below.drew ?_) | (with_reducible refine below_drewN ?_ _) | (with_reducible refine Below.setCell ?_ ?_ _) | go_size))))
            clear hK K hHeld10
            try simp only [Act.put, List.setIfInBounds_toArray, List.set_cons_zero, List.set_cons_succ]
            refine wpAnyH_ready (rs := [12]) (by kernel_rfl) (by simp) ?_
            refine AllReadyH.cons (o := { dst := none, op := Go.Op.store 55 (Go.Operand.tmp 11) (Go.Operand.tmp 61), type := 0, pos := "law.go:156", after := #[{ on := 11, ground := Go.Ground.data }, { on := 10, ground := Go.Ground.data }, { on := 10, ground := Go.Ground.chain }, { on := 0, ground := Go.Ground.phase }, { on := 1, ground := Go.Ground.phase }, { on := 2, ground := Go.Ground.phase }, { on := 3, ground := Go.Ground.phase }, { on := 4, ground := Go.Ground.phase }, { on := 5, ground := Go.Ground.phase }, { on := 6, ground := Go.Ground.phase }, { on := 7, ground := Go.Ground.phase }, { on := 8, ground := Go.Ground.phase }, { on := 9, ground := Go.Ground.phase }, { on := 10, ground := Go.Ground.phase }, { on := 11, ground := Go.Ground.phase }], guard := none }) rfl (fun K hK => ?_) AllReadyH.nil
            go_simp
            refine hK.out _ _ ?_ (fun hHeld12 => ?_)
            · (try dsimp only); (exact fl_of (by have h := HV3.out; have hz := h.size; have hz2 : w2.heap.size ≤ T2.heap.size := HT2.out.size; (repeat' (first | (with_reducible assumption) | (with_reducible exact Below.refl _ _) | (with_reducible refine bstep (by with_reducible assumption) ?_) | (with_reducible refine Below.alloc ?_ ?_ _) | (with_reducible refine Below.drew ?_) | (with_reducible refine below_drewN ?_ _) | (with_reducible refine Below.setCell ?_ ?_ _) | go_size))))
            clear hK K hHeld11
            try simp only [Act.put, List.setIfInBounds_toArray, List.set_cons_zero, List.set_cons_succ]
            refine wpAnyH_done (by kernel_rfl) ?_ _
            clear hHeld12
            have A3 : ∀ o, (v3.alloc (.cells #[.int .i64 (X3 : Int), .int .i64 (Y3 : Int)] 55)).cell? ⟨v3.heap.size, o, none⟩ = (#[.int .i64 (X3 : Int), .int .i64 (Y3 : Int)] : Array Value)[o]? := new_at rfl _ _
            have A1t : ∀ o, (v3.alloc (.cells #[.int .i64 (X3 : Int), .int .i64 (Y3 : Int)] 55)).cell? ⟨n1', o, none⟩ = (#[.int .i64 (X1 : Int), .int .i64 (Y1 : Int)] : Array Value)[o]? := blk_alloc (by simp) _ A1v
            have A2t : ∀ o, (v3.alloc (.cells #[.int .i64 (X3 : Int), .int .i64 (Y3 : Int)] 55)).cell? ⟨n2', o, none⟩ = (#[.int .i64 (X2 : Int), .int .i64 (Y2 : Int)] : Array Value)[o]? := blk_alloc (by simp) _ A2v
            have HT3 : Hid (Below w2.heap.size w2 (v3.alloc (.cells #[.int .i64 (X3 : Int), .int .i64 (Y3 : Int)] 55))) := Lib.hid (by have h := HV3.out; have hz := h.size; have hz2 : w2.heap.size ≤ T2.heap.size := HT2.out.size; (repeat' (first | (with_reducible assumption) | (with_reducible exact Below.refl _ _) | (with_reducible refine bstep (by with_reducible assumption) ?_) | (with_reducible refine Below.alloc ?_ ?_ _) | (with_reducible refine Below.drew ?_) | (with_reducible refine below_drewN ?_ _) | (with_reducible refine Below.setCell ?_ ?_ _) | go_size)))
            generalize (v3.alloc (.cells #[.int .i64 (X3 : Int), .int .i64 (Y3 : Int)] 55)) = T3 at *
            obtain ⟨n3', hn3⟩ : ∃ n, v3.heap.size = n := ⟨_, rfl⟩
            rw [hn3] at A3 ⊢
            clear A1 A1v
            have A1 := A1t
            clear A1t
            clear A2 A2v
            have A2 := A2t
            clear A2t
            clear hn3 gb3
            clear HV3 v3
            clear K2
            have K3 := fl_of HT3.out
            clear C2
            have C3 := fun o => (K3 w.heap.size o L2).trans (C2 o)
            go_wp2_with fail
            go_roundg (M - (j + 1))
            case measure => omega
            case rel => exact ⟨j + 1, by omega, rfl, by rw [HSX.out], by simp, by first | exact HT3.out | exact HT3.out.drew | exact below_drewN HT3.out _⟩
          refine AllReadyH.cons (o := { dst := some 11, op := Go.Op.alloc 55, type := 0, pos := "law.go:156", after := #[], guard := none }) rfl (fun K hK => ?_) ?_
          · go_simp
            refine hK.out _ _ ?_ (fun hHeld11 => ?_)
            · (try dsimp only); (exact fl_of (by have h := HT2.out; have hz := h.size; have hz2 : w2.heap.size ≤ T2.heap.size := HT2.out.size; (repeat' (first | (with_reducible assumption) | (with_reducible exact Below.refl _ _) | (with_reducible refine bstep (by with_reducible assumption) ?_) | (with_reducible refine Below.alloc ?_ ?_ _) | (with_reducible refine Below.drew ?_) | (with_reducible refine below_drewN ?_ _) | (with_reducible refine Below.setCell ?_ ?_ _) | go_size))))
            clear hK K hHeld
            try simp only [Act.put, List.setIfInBounds_toArray, List.set_cons_zero, List.set_cons_succ]
            refine wpAnyH_ready (rs := [10]) (by kernel_rfl) (by simp) ?_
            refine AllReadyH.cons (o := { dst := some 61, op := Go.Op.call { callee := Go.Callee.value (Go.Operand.func 25), args := #[Go.Operand.tmp 51, Go.Operand.tmp 59, Go.Operand.tmp 60], argTypes := #[44, 50, 3] }, type := 55, pos := "law.go:156", after := #[{ on := 0, ground := Go.Ground.data }, { on := 8, ground := Go.Ground.data }, { on := 9, ground := Go.Ground.data }], guard := none }) rfl (fun K hK => ?_) AllReadyH.nil
            go_simp
            (go_at_call 25; ((with_reducible refine (P3.out _).mono ?_); rintro e v3 ⟨rfl, gb3⟩))
            have HV3 : Hid (Below w2.heap.size w2 v3) := Lib.hid (by have h := HT2.out; have hz := h.size; have hz2 : w2.heap.size ≤ T2.heap.size := HT2.out.size; (repeat' (first | (with_reducible assumption) | (with_reducible exact Below.refl _ _) | (with_reducible refine bstep (by with_reducible assumption) ?_) | (with_reducible refine Below.alloc ?_ ?_ _) | (with_reducible refine Below.drew ?_) | (with_reducible refine below_drewN ?_ _) | (with_reducible refine Below.setCell ?_ ?_ _) | go_size)))
            have A1v := blk_later (by simp) gb3 (blk_alloc (by simp) _ (blk_drew A1))
            have A2v := blk_later (by simp) gb3 (blk_alloc (by simp) _ (blk_drew A2))
            have D3 : ∀ o, v3.cell? ⟨T2.heap.size, o, none⟩ = (#[.int .i64 0, .int .i64 0] : Array Value)[o]? := blk_later (by simp) gb3 (new_at rfl _ _)
            have E3 : ∀ o, v3.frozen? ⟨T2.heap.size, o, none⟩ = false := fro_call gb3 (fro_new rfl _ _) (lt_new rfl)
            have s3 : T2.heap.size < v3.heap.size := blk_lt (by simp) D3
            refine hK.out _ _ ?_ (fun hHeld10 => ?_)
            · (try dsimp only); (exact fl_of HV3.out)
            clear hK K hHeld11
            try simp only [Act.put, List.setIfInBounds_toArray, List.set_cons_zero, List.set_cons_succ]
            refine wpAnyH_ready (rs := [12]) (by kernel_rfl) (by simp) ?_
            refine AllReadyH.cons (o := { dst := none, op := Go.Op.store 55 (Go.Operand.tmp 11) (Go.Operand.tmp 61), type := 0, pos := "law.go:156", after := #[{ on := 11, ground := Go.Ground.data }, { on := 10, ground := Go.Ground.data }, { on := 10, ground := Go.Ground.chain }, { on := 0, ground := Go.Ground.phase }, { on := 1, ground := Go.Ground.phase }, { on := 2, ground := Go.Ground.phase }, { on := 3, ground := Go.Ground.phase }, { on := 4, ground := Go.Ground.phase }, { on := 5, ground := Go.Ground.phase }, { on := 6, ground := Go.Ground.phase }, { on := 7, ground := Go.Ground.phase }, { on := 8, ground := Go.Ground.phase }, { on := 9, ground := Go.Ground.phase }, { on := 10, ground := Go.Ground.phase }, { on := 11, ground := Go.Ground.phase }], guard := none }) rfl (fun K hK => ?_) AllReadyH.nil
            go_simp
            refine hK.out _ _ ?_ (fun hHeld12 => ?_)
            · (try dsimp only); (exact fl_of (by have h := HV3.out; have hz := h.size; have hz2 : w2.heap.size ≤ T2.heap.size := HT2.out.size; (repeat' (first | (with_reducible assumption) | (with_reducible exact Below.refl _ _) | (with_reducible refine bstep (by with_reducible assumption) ?_) | (with_reducible refine Below.alloc ?_ ?_ _) | (with_reducible refine Below.drew ?_) | (with_reducible refine below_drewN ?_ _) | (with_reducible refine Below.setCell ?_ ?_ _) | go_size))))
            clear hK K hHeld10
            try simp only [Act.put, List.setIfInBounds_toArray, List.set_cons_zero, List.set_cons_succ]
            refine wpAnyH_done (by kernel_rfl) ?_ _
            clear hHeld12
            have A3 : ∀ o, ((v3.setCell ⟨T2.heap.size, 0, none⟩ (.int .i64 (X3 : Int))).setCell ⟨T2.heap.size, 1, none⟩ (.int .i64 (Y3 : Int))).cell? ⟨T2.heap.size, o, none⟩ = (#[.int .i64 (X3 : Int), .int .i64 (Y3 : Int)] : Array Value)[o]? := st2_blk D3 _ _
            have A1t : ∀ o, ((v3.setCell ⟨T2.heap.size, 0, none⟩ (.int .i64 (X3 : Int))).setCell ⟨T2.heap.size, 1, none⟩ (.int .i64 (Y3 : Int))).cell? ⟨n1', o, none⟩ = (#[.int .i64 (X1 : Int), .int .i64 (Y1 : Int)] : Array Value)[o]? := st2_far (Nat.ne_of_gt (blk_lt (by simp) A1)) A1v
            have A2t : ∀ o, ((v3.setCell ⟨T2.heap.size, 0, none⟩ (.int .i64 (X3 : Int))).setCell ⟨T2.heap.size, 1, none⟩ (.int .i64 (Y3 : Int))).cell? ⟨n2', o, none⟩ = (#[.int .i64 (X2 : Int), .int .i64 (Y2 : Int)] : Array Value)[o]? := st2_far (Nat.ne_of_gt (blk_lt (by simp) A2)) A2v
            have HT3 : Hid (Below w2.heap.size w2 ((v3.setCell ⟨T2.heap.size, 0, none⟩ (.int .i64 (X3 : Int))).setCell ⟨T2.heap.size, 1, none⟩ (.int .i64 (Y3 : Int)))) := Lib.hid (by have h := HV3.out; have hz := h.size; have hz2 : w2.heap.size ≤ T2.heap.size := HT2.out.size; (repeat' (first | (with_reducible assumption) | (with_reducible exact Below.refl _ _) | (with_reducible refine bstep (by with_reducible assumption) ?_) | (with_reducible refine Below.alloc ?_ ?_ _) | (with_reducible refine Below.drew ?_) | (with_reducible refine below_drewN ?_ _) | (with_reducible refine Below.setCell ?_ ?_ _) | go_size)))
            generalize ((v3.setCell ⟨T2.heap.size, 0, none⟩ (.int .i64 (X3 : Int))).setCell ⟨T2.heap.size, 1, none⟩ (.int .i64 (Y3 : Int))) = T3 at *
            obtain ⟨n3', hn3⟩ : ∃ n, T2.heap.size = n := ⟨_, rfl⟩
            rw [hn3] at A3 ⊢
            clear A1 A1v
            have A1 := A1t
            clear A1t
            clear A2 A2v
            have A2 := A2t
            clear A2t
            clear hn3 D3 E3 s3 gb3
            clear HV3 v3
            clear K2
            have K3 := fl_of HT3.out
            clear C2
            have C3 := fun o => (K3 w.heap.size o L2).trans (C2 o)
            go_wp2_with fail
            go_roundg (M - (j + 1))
            case measure => omega
            case rel => exact ⟨j + 1, by omega, rfl, by rw [HSX.out], by simp, by first | exact HT3.out | exact HT3.out.drew | exact below_drewN HT3.out _⟩
          exact AllReadyH.nil
        exact AllReadyH.nil
      refine AllReadyH.cons (o := { dst := some 9, op := Go.Op.alloc 55, type := 0, pos := "law.go:154", after := #[], guard := none }) rfl (fun K hK => ?_) ?_
      · go_simp
        refine hK.out _ _ ?_ (fun hHeld11 => ?_)
        · (try dsimp only); (exact fl_of (by have h := HBW.out; have hz := h.size; have hz2 : w2.heap.size ≤ wr.heap.size := HBW.out.size; (repeat' (first | (with_reducible assumption) | (with_reducible exact Below.refl _ _) | (with_reducible refine bstep (by with_reducible assumption) ?_) | (with_reducible refine Below.alloc ?_ ?_ _) | (with_reducible refine Below.drew ?_) | (with_reducible refine below_drewN ?_ _) | (with_reducible refine Below.setCell ?_ ?_ _) | go_size))))
        clear hK K hHeld
        try simp only [Act.put, List.setIfInBounds_toArray, List.set_cons_zero, List.set_cons_succ]
        refine wpAnyH_ready (rs := [10]) (by kernel_rfl) (by simp) ?_
        refine AllReadyH.cons (o := { dst := some 39, op := Go.Op.call { callee := Go.Callee.value (Go.Operand.func 25), args := #[Go.Operand.tmp 29, Go.Operand.tmp 37, Go.Operand.tmp 38], argTypes := #[44, 50, 3] }, type := 55, pos := "law.go:154", after := #[{ on := 0, ground := Go.Ground.data }, { on := 8, ground := Go.Ground.data }, { on := 9, ground := Go.Ground.data }], guard := none }) rfl (fun K hK => ?_) AllReadyH.nil
        go_simp
        (go_at_call 25; ((with_reducible refine (P1.out _).mono ?_); rintro e v1 ⟨rfl, gb1⟩))
        have HV1 : Hid (Below w2.heap.size w2 v1) := Lib.hid (by have h := HBW.out; have hz := h.size; have hz2 : w2.heap.size ≤ wr.heap.size := HBW.out.size; (repeat' (first | (with_reducible assumption) | (with_reducible exact Below.refl _ _) | (with_reducible refine bstep (by with_reducible assumption) ?_) | (with_reducible refine Below.alloc ?_ ?_ _) | (with_reducible refine Below.drew ?_) | (with_reducible refine below_drewN ?_ _) | (with_reducible refine Below.setCell ?_ ?_ _) | go_size)))
        have D1 : ∀ o, v1.cell? ⟨wr.heap.size, o, none⟩ = (#[.int .i64 0, .int .i64 0] : Array Value)[o]? := blk_later (by simp) gb1 (new_at rfl _ _)
        have E1 : ∀ o, v1.frozen? ⟨wr.heap.size, o, none⟩ = false := fro_call gb1 (fro_new rfl _ _) (lt_new rfl)
        have s1 : wr.heap.size < v1.heap.size := blk_lt (by simp) D1
        refine hK.out _ _ ?_ (fun hHeld10 => ?_)
        · (try dsimp only); (exact fl_of HV1.out)
        clear hK K hHeld11
        try simp only [Act.put, List.setIfInBounds_toArray, List.set_cons_zero, List.set_cons_succ]
        refine wpAnyH_ready (rs := [12]) (by kernel_rfl) (by simp) ?_
        refine AllReadyH.cons (o := { dst := none, op := Go.Op.store 55 (Go.Operand.tmp 9) (Go.Operand.tmp 39), type := 0, pos := "law.go:154", after := #[{ on := 11, ground := Go.Ground.data }, { on := 10, ground := Go.Ground.data }, { on := 10, ground := Go.Ground.chain }, { on := 0, ground := Go.Ground.phase }, { on := 1, ground := Go.Ground.phase }, { on := 2, ground := Go.Ground.phase }, { on := 3, ground := Go.Ground.phase }, { on := 4, ground := Go.Ground.phase }, { on := 5, ground := Go.Ground.phase }, { on := 6, ground := Go.Ground.phase }, { on := 7, ground := Go.Ground.phase }, { on := 8, ground := Go.Ground.phase }, { on := 9, ground := Go.Ground.phase }, { on := 10, ground := Go.Ground.phase }, { on := 11, ground := Go.Ground.phase }], guard := none }) rfl (fun K hK => ?_) AllReadyH.nil
        go_simp
        refine hK.out _ _ ?_ (fun hHeld12 => ?_)
        · (try dsimp only); (exact fl_of (by have h := HV1.out; have hz := h.size; have hz2 : w2.heap.size ≤ wr.heap.size := HBW.out.size; (repeat' (first | (with_reducible assumption) | (with_reducible exact Below.refl _ _) | (with_reducible refine bstep (by with_reducible assumption) ?_) | (with_reducible refine Below.alloc ?_ ?_ _) | (with_reducible refine Below.drew ?_) | (with_reducible refine below_drewN ?_ _) | (with_reducible refine Below.setCell ?_ ?_ _) | go_size))))
        clear hK K hHeld10
        try simp only [Act.put, List.setIfInBounds_toArray, List.set_cons_zero, List.set_cons_succ]
        refine wpAnyH_done (by kernel_rfl) ?_ _
        clear hHeld12
        have A1 : ∀ o, ((v1.setCell ⟨wr.heap.size, 0, none⟩ (.int .i64 (X1 : Int))).setCell ⟨wr.heap.size, 1, none⟩ (.int .i64 (Y1 : Int))).cell? ⟨wr.heap.size, o, none⟩ = (#[.int .i64 (X1 : Int), .int .i64 (Y1 : Int)] : Array Value)[o]? := st2_blk D1 _ _
        have HT1 : Hid (Below w2.heap.size w2 ((v1.setCell ⟨wr.heap.size, 0, none⟩ (.int .i64 (X1 : Int))).setCell ⟨wr.heap.size, 1, none⟩ (.int .i64 (Y1 : Int)))) := Lib.hid (by have h := HV1.out; have hz := h.size; have hz2 : w2.heap.size ≤ wr.heap.size := HBW.out.size; (repeat' (first | (with_reducible assumption) | (with_reducible exact Below.refl _ _) | (with_reducible refine bstep (by with_reducible assumption) ?_) | (with_reducible refine Below.alloc ?_ ?_ _) | (with_reducible refine Below.drew ?_) | (with_reducible refine below_drewN ?_ _) | (with_reducible refine Below.setCell ?_ ?_ _) | go_size)))
        generalize ((v1.setCell ⟨wr.heap.size, 0, none⟩ (.int .i64 (X1 : Int))).setCell ⟨wr.heap.size, 1, none⟩ (.int .i64 (Y1 : Int))) = T1 at *
        obtain ⟨n1', hn1⟩ : ∃ n, wr.heap.size = n := ⟨_, rfl⟩
        rw [hn1] at A1 ⊢
        clear hn1 D1 E1 s1 gb1
        clear HV1 v1
        clear K0
        have K1 := fl_of HT1.out
        clear C0
        have C1 := fun o => (K1 w.heap.size o L2).trans (C2 o)
        go_wp2_with fail
        refine wp_region_held_drew (S := (fun w' => (∀ b o, b < w2.heap.size → w'.cell? ⟨b, o, none⟩ = w2.cell? ⟨b, o, none⟩))) (by kernel_rfl) ?_ (fun hHeld => ?_)
        · (try dsimp only); (exact K1)
        refine wpAnyH_take (i := 0) (oi := { dst := some 40, op := Go.Op.load 44 (Go.Operand.tmp 1), type := 44, pos := "law.go:155", after := #[], guard := none }) (v := ?_) rfl (by kernel_rfl) (by kernel_rfl) (by kernel_rfl) (fun _ _ _ h => h) (Or.inl ⟨by rfl, ?_⟩) (by assumption) ?_
        rotate_left
        · intro w hSw; (try dsimp only at hSw); go_simp; (try with_reducible rfl)
        try simp only [Act.put, List.setIfInBounds_toArray, List.set_cons_zero, List.set_cons_succ]
        refine wpAnyH_take (i := 1) (oi := { dst := some 41, op := Go.Op.move (Go.Operand.tmp 3), type := 45, pos := "law.go:155", after := #[], guard := none }) (v := ?_) rfl (by kernel_rfl) (by kernel_rfl) (by kernel_rfl) (fun _ _ _ h => h) (Or.inl ⟨by rfl, ?_⟩) (by assumption) ?_
        rotate_left
        · intro w hSw; (try dsimp only at hSw); go_simp; (try with_reducible rfl)
        try simp only [Act.put, List.setIfInBounds_toArray, List.set_cons_zero, List.set_cons_succ]
        refine wpAnyH_take (i := 2) (oi := { dst := some 42, op := Go.Op.move (Go.Operand.tmp 4), type := 46, pos := "law.go:155", after := #[], guard := none }) (v := ?_) rfl (by kernel_rfl) (by kernel_rfl) (by kernel_rfl) (fun _ _ _ h => h) (Or.inl ⟨by rfl, ?_⟩) (by assumption) ?_
        rotate_left
        · intro w hSw; (try dsimp only at hSw); go_simp; (try with_reducible rfl)
        try simp only [Act.put, List.setIfInBounds_toArray, List.set_cons_zero, List.set_cons_succ]
        refine wpAnyH_take (i := 3) (oi := { dst := some 43, op := Go.Op.move (Go.Operand.tmp 8), type := 3, pos := "law.go:155", after := #[], guard := none }) (v := ?_) rfl (by kernel_rfl) (by kernel_rfl) (by kernel_rfl) (fun _ _ _ h => h) (Or.inl ⟨by rfl, ?_⟩) (by assumption) ?_
        rotate_left
        · intro w hSw; (try dsimp only at hSw); go_simp; (try with_reducible rfl)
        try simp only [Act.put, List.setIfInBounds_toArray, List.set_cons_zero, List.set_cons_succ]
        refine wpAnyH_take (i := 4) (oi := { dst := some 44, op := Go.Op.indexAddr 46 (Go.Operand.tmp 42) (Go.Operand.tmp 43), type := 0, pos := "law.go:155", after := #[{ on := 2, ground := Go.Ground.data }, { on := 3, ground := Go.Ground.data }], guard := none }) (v := ?_) rfl (by kernel_rfl) (by kernel_rfl) (by kernel_rfl) (fun _ _ _ h => h) (Or.inl ⟨by rfl, ?_⟩) (by assumption) ?_
        rotate_left
        · intro w hSw; (try dsimp only at hSw); go_simp; (try with_reducible rfl)
        try simp only [Act.put, List.setIfInBounds_toArray, List.set_cons_zero, List.set_cons_succ]
        refine wpAnyH_take (i := 5) (oi := { dst := some 45, op := Go.Op.indexAddr 51 (Go.Operand.tmp 44) (Go.Operand.const (Go.Value.int Go.IntKind.i64 1)), type := 0, pos := "law.go:155", after := #[{ on := 4, ground := Go.Ground.data }], guard := none }) (v := ?_) rfl (by kernel_rfl) (by kernel_rfl) (by kernel_rfl) (fun _ _ _ h => h) (Or.inl ⟨by rfl, ?_⟩) (by assumption) ?_
        rotate_left
        · intro w hSw; (try dsimp only at hSw); go_simp; (try with_reducible rfl)
        try simp only [Act.put, List.setIfInBounds_toArray, List.set_cons_zero, List.set_cons_succ]
        refine wpAnyH_take (i := 6) (oi := { dst := some 46, op := Go.Op.load 3 (Go.Operand.tmp 45), type := 3, pos := "law.go:155", after := #[{ on := 5, ground := Go.Ground.data }], guard := none }) (v := ?_) rfl (by kernel_rfl) (by kernel_rfl) (by kernel_rfl) (fun _ _ _ h => h) (Or.inl ⟨by rfl, ?_⟩) (by assumption) ?_
        rotate_left
        · intro w hSw; (try dsimp only at hSw); go_simp; (try with_reducible rfl)
        try simp only [Act.put, List.setIfInBounds_toArray, List.set_cons_zero, List.set_cons_succ]
        refine wpAnyH_take (i := 7) (oi := { dst := some 47, op := Go.Op.indexAddr 45 (Go.Operand.tmp 41) (Go.Operand.tmp 46), type := 0, pos := "law.go:155", after := #[{ on := 1, ground := Go.Ground.data }, { on := 6, ground := Go.Ground.data }], guard := none }) (v := ?_) rfl (by kernel_rfl) (by kernel_rfl) (by kernel_rfl) (fun _ _ _ h => h) (Or.inl ⟨by rfl, ?_⟩) (by assumption) ?_
        rotate_left
        · intro w hSw; (try dsimp only at hSw); go_simp; (try with_reducible rfl)
        try simp only [Act.put, List.setIfInBounds_toArray, List.set_cons_zero, List.set_cons_succ]
        refine wpAnyH_take (i := 8) (oi := { dst := some 48, op := Go.Op.load 50 (Go.Operand.tmp 47), type := 50, pos := "law.go:155", after := #[{ on := 7, ground := Go.Ground.data }], guard := none }) (v := ?_) rfl (by kernel_rfl) (by kernel_rfl) (by kernel_rfl) (fun _ _ _ h => h) (Or.inl ⟨by rfl, ?_⟩) (by assumption) ?_
        rotate_left
        · intro w hSw; (try dsimp only at hSw); go_simp; (try with_reducible rfl)
        try simp only [Act.put, List.setIfInBounds_toArray, List.set_cons_zero, List.set_cons_succ]
        refine wpAnyH_take (i := 9) (oi := { dst := some 49, op := Go.Op.move (Go.Operand.tmp 6), type := 3, pos := "law.go:155", after := #[], guard := none }) (v := ?_) rfl (by kernel_rfl) (by kernel_rfl) (by kernel_rfl) (fun _ _ _ h => h) (Or.inl ⟨by rfl, ?_⟩) (by assumption) ?_
        rotate_left
        · intro w hSw; (try dsimp only at hSw); go_simp; (try with_reducible rfl)
        try simp only [Act.put, List.setIfInBounds_toArray, List.set_cons_zero, List.set_cons_succ]
        refine wpAnyH_ready (rs := [10, 11]) (by kernel_rfl) (by simp) ?_
        refine AllReadyH.cons (o := { dst := some 50, op := Go.Op.call { callee := Go.Callee.value (Go.Operand.func 25), args := #[Go.Operand.tmp 40, Go.Operand.tmp 48, Go.Operand.tmp 49], argTypes := #[44, 50, 3] }, type := 55, pos := "law.go:155", after := #[{ on := 0, ground := Go.Ground.data }, { on := 8, ground := Go.Ground.data }, { on := 9, ground := Go.Ground.data }], guard := none }) rfl (fun K hK => ?_) ?_
        · go_simp
          (go_at_call 25; ((with_reducible refine (P2'.out _).mono ?_); rintro e v2 ⟨rfl, gb2⟩))
          have HV2 : Hid (Below w2.heap.size w2 v2) := Lib.hid (by have h := HT1.out; have hz := h.size; have hz2 : w2.heap.size ≤ T1.heap.size := HT1.out.size; (repeat' (first | (with_reducible assumption) | (with_reducible exact Below.refl _ _) | (with_reducible refine bstep (by with_reducible assumption) ?_) | (with_reducible refine Below.alloc ?_ ?_ _) | (with_reducible refine Below.drew ?_) | (with_reducible refine below_drewN ?_ _) | (with_reducible refine Below.setCell ?_ ?_ _) | go_size)))
          have A1v := blk_later (by simp) gb2 (blk_drew A1)
          refine hK.out _ _ ?_ (fun hHeld10 => ?_)
          · (try dsimp only); (exact fl_of HV2.out)
          clear hK K hHeld
          try simp only [Act.put, List.setIfInBounds_toArray, List.set_cons_zero, List.set_cons_succ]
          refine wpAnyH_ready (rs := [11]) (by kernel_rfl) (by simp) ?_
          refine AllReadyH.cons (o := { dst := some 10, op := Go.Op.alloc 55, type := 0, pos := "law.go:155", after := #[], guard := none }) rfl (fun K hK => ?_) AllReadyH.nil
          go_simp
          refine hK.out _ _ ?_ (fun hHeld11 => ?_)
          · (try dsimp only); (exact fl_of (by have h := HV2.out; have hz := h.size; have hz2 : w2.heap.size ≤ T1.heap.size := HT1.out.size; (repeat' (first | (with_reducible assumption) | (with_reducible exact Below.refl _ _) | (with_reducible refine bstep (by with_reducible assumption) ?_) | (with_reducible refine Below.alloc ?_ ?_ _) | (with_reducible refine Below.drew ?_) | (with_reducible refine below_drewN ?_ _) | (with_reducible refine Below.setCell ?_ ?_ _) | go_size))))
          clear hK K hHeld10
          try simp only [Act.put, List.setIfInBounds_toArray, List.set_cons_zero, List.set_cons_succ]
          refine wpAnyH_ready (rs := [12]) (by kernel_rfl) (by simp) ?_
          refine AllReadyH.cons (o := { dst := none, op := Go.Op.store 55 (Go.Operand.tmp 10) (Go.Operand.tmp 50), type := 0, pos := "law.go:155", after := #[{ on := 11, ground := Go.Ground.data }, { on := 10, ground := Go.Ground.data }, { on := 10, ground := Go.Ground.chain }, { on := 0, ground := Go.Ground.phase }, { on := 1, ground := Go.Ground.phase }, { on := 2, ground := Go.Ground.phase }, { on := 3, ground := Go.Ground.phase }, { on := 4, ground := Go.Ground.phase }, { on := 5, ground := Go.Ground.phase }, { on := 6, ground := Go.Ground.phase }, { on := 7, ground := Go.Ground.phase }, { on := 8, ground := Go.Ground.phase }, { on := 9, ground := Go.Ground.phase }, { on := 10, ground := Go.Ground.phase }, { on := 11, ground := Go.Ground.phase }], guard := none }) rfl (fun K hK => ?_) AllReadyH.nil
          go_simp
          refine hK.out _ _ ?_ (fun hHeld12 => ?_)
          · (try dsimp only); (exact fl_of (by have h := HV2.out; have hz := h.size; have hz2 : w2.heap.size ≤ T1.heap.size := HT1.out.size; (repeat' (first | (with_reducible assumption) | (with_reducible exact Below.refl _ _) | (with_reducible refine bstep (by with_reducible assumption) ?_) | (with_reducible refine Below.alloc ?_ ?_ _) | (with_reducible refine Below.drew ?_) | (with_reducible refine below_drewN ?_ _) | (with_reducible refine Below.setCell ?_ ?_ _) | go_size))))
          clear hK K hHeld11
          try simp only [Act.put, List.setIfInBounds_toArray, List.set_cons_zero, List.set_cons_succ]
          refine wpAnyH_done (by kernel_rfl) ?_ _
          clear hHeld12
          have A2 : ∀ o, (v2.alloc (.cells #[.int .i64 (X2 : Int), .int .i64 (Y2 : Int)] 55)).cell? ⟨v2.heap.size, o, none⟩ = (#[.int .i64 (X2 : Int), .int .i64 (Y2 : Int)] : Array Value)[o]? := new_at rfl _ _
          have A1t : ∀ o, (v2.alloc (.cells #[.int .i64 (X2 : Int), .int .i64 (Y2 : Int)] 55)).cell? ⟨n1', o, none⟩ = (#[.int .i64 (X1 : Int), .int .i64 (Y1 : Int)] : Array Value)[o]? := blk_alloc (by simp) _ A1v
          have HT2 : Hid (Below w2.heap.size w2 (v2.alloc (.cells #[.int .i64 (X2 : Int), .int .i64 (Y2 : Int)] 55))) := Lib.hid (by have h := HV2.out; have hz := h.size; have hz2 : w2.heap.size ≤ T1.heap.size := HT1.out.size; (repeat' (first | (with_reducible assumption) | (with_reducible exact Below.refl _ _) | (with_reducible refine bstep (by with_reducible assumption) ?_) | (with_reducible refine Below.alloc ?_ ?_ _) | (with_reducible refine Below.drew ?_) | (with_reducible refine below_drewN ?_ _) | (with_reducible refine Below.setCell ?_ ?_ _) | go_size)))
          generalize (v2.alloc (.cells #[.int .i64 (X2 : Int), .int .i64 (Y2 : Int)] 55)) = T2 at *
          obtain ⟨n2', hn2⟩ : ∃ n, v2.heap.size = n := ⟨_, rfl⟩
          rw [hn2] at A2 ⊢
          clear A1 A1v
          have A1 := A1t
          clear A1t
          clear hn2 gb2
          clear HV2 v2
          clear K1
          have K2 := fl_of HT2.out
          clear C1
          have C2 := fun o => (K2 w.heap.size o L2).trans (C2 o)
          go_wp2_with fail
          refine wp_region_held_drew (S := (fun w' => (∀ b o, b < w2.heap.size → w'.cell? ⟨b, o, none⟩ = w2.cell? ⟨b, o, none⟩))) (by kernel_rfl) ?_ (fun hHeld => ?_)
          · (try dsimp only); (exact K2)
          refine wpAnyH_take (i := 0) (oi := { dst := some 51, op := Go.Op.load 44 (Go.Operand.tmp 1), type := 44, pos := "law.go:156", after := #[], guard := none }) (v := ?_) rfl (by kernel_rfl) (by kernel_rfl) (by kernel_rfl) (fun _ _ _ h => h) (Or.inl ⟨by rfl, ?_⟩) (by assumption) ?_
          rotate_left
          · intro w hSw; (try dsimp only at hSw); go_simp; (try with_reducible rfl)
          try simp only [Act.put, List.setIfInBounds_toArray, List.set_cons_zero, List.set_cons_succ]
          refine wpAnyH_take (i := 1) (oi := { dst := some 52, op := Go.Op.move (Go.Operand.tmp 3), type := 45, pos := "law.go:156", after := #[], guard := none }) (v := ?_) rfl (by kernel_rfl) (by kernel_rfl) (by kernel_rfl) (fun _ _ _ h => h) (Or.inl ⟨by rfl, ?_⟩) (by assumption) ?_
          rotate_left
          · intro w hSw; (try dsimp only at hSw); go_simp; (try with_reducible rfl)
          try simp only [Act.put, List.setIfInBounds_toArray, List.set_cons_zero, List.set_cons_succ]
          refine wpAnyH_take (i := 2) (oi := { dst := some 53, op := Go.Op.move (Go.Operand.tmp 4), type := 46, pos := "law.go:156", after := #[], guard := none }) (v := ?_) rfl (by kernel_rfl) (by kernel_rfl) (by kernel_rfl) (fun _ _ _ h => h) (Or.inl ⟨by rfl, ?_⟩) (by assumption) ?_
          rotate_left
          · intro w hSw; (try dsimp only at hSw); go_simp; (try with_reducible rfl)
          try simp only [Act.put, List.setIfInBounds_toArray, List.set_cons_zero, List.set_cons_succ]
          refine wpAnyH_take (i := 3) (oi := { dst := some 54, op := Go.Op.move (Go.Operand.tmp 8), type := 3, pos := "law.go:156", after := #[], guard := none }) (v := ?_) rfl (by kernel_rfl) (by kernel_rfl) (by kernel_rfl) (fun _ _ _ h => h) (Or.inl ⟨by rfl, ?_⟩) (by assumption) ?_
          rotate_left
          · intro w hSw; (try dsimp only at hSw); go_simp; (try with_reducible rfl)
          try simp only [Act.put, List.setIfInBounds_toArray, List.set_cons_zero, List.set_cons_succ]
          refine wpAnyH_take (i := 4) (oi := { dst := some 55, op := Go.Op.indexAddr 46 (Go.Operand.tmp 53) (Go.Operand.tmp 54), type := 0, pos := "law.go:156", after := #[{ on := 2, ground := Go.Ground.data }, { on := 3, ground := Go.Ground.data }], guard := none }) (v := ?_) rfl (by kernel_rfl) (by kernel_rfl) (by kernel_rfl) (fun _ _ _ h => h) (Or.inl ⟨by rfl, ?_⟩) (by assumption) ?_
          rotate_left
          · intro w hSw; (try dsimp only at hSw); go_simp; (try with_reducible rfl)
          try simp only [Act.put, List.setIfInBounds_toArray, List.set_cons_zero, List.set_cons_succ]
          refine wpAnyH_take (i := 5) (oi := { dst := some 56, op := Go.Op.indexAddr 51 (Go.Operand.tmp 55) (Go.Operand.const (Go.Value.int Go.IntKind.i64 2)), type := 0, pos := "law.go:156", after := #[{ on := 4, ground := Go.Ground.data }], guard := none }) (v := ?_) rfl (by kernel_rfl) (by kernel_rfl) (by kernel_rfl) (fun _ _ _ h => h) (Or.inl ⟨by rfl, ?_⟩) (by assumption) ?_
          rotate_left
          · intro w hSw; (try dsimp only at hSw); go_simp; (try with_reducible rfl)
          try simp only [Act.put, List.setIfInBounds_toArray, List.set_cons_zero, List.set_cons_succ]
          refine wpAnyH_take (i := 6) (oi := { dst := some 57, op := Go.Op.load 3 (Go.Operand.tmp 56), type := 3, pos := "law.go:156", after := #[{ on := 5, ground := Go.Ground.data }], guard := none }) (v := ?_) rfl (by kernel_rfl) (by kernel_rfl) (by kernel_rfl) (fun _ _ _ h => h) (Or.inl ⟨by rfl, ?_⟩) (by assumption) ?_
          rotate_left
          · intro w hSw; (try dsimp only at hSw); go_simp; (try with_reducible rfl)
          try simp only [Act.put, List.setIfInBounds_toArray, List.set_cons_zero, List.set_cons_succ]
          refine wpAnyH_take (i := 7) (oi := { dst := some 58, op := Go.Op.indexAddr 45 (Go.Operand.tmp 52) (Go.Operand.tmp 57), type := 0, pos := "law.go:156", after := #[{ on := 1, ground := Go.Ground.data }, { on := 6, ground := Go.Ground.data }], guard := none }) (v := ?_) rfl (by kernel_rfl) (by kernel_rfl) (by kernel_rfl) (fun _ _ _ h => h) (Or.inl ⟨by rfl, ?_⟩) (by assumption) ?_
          rotate_left
          · intro w hSw; (try dsimp only at hSw); go_simp; (try with_reducible rfl)
          try simp only [Act.put, List.setIfInBounds_toArray, List.set_cons_zero, List.set_cons_succ]
          refine wpAnyH_take (i := 8) (oi := { dst := some 59, op := Go.Op.load 50 (Go.Operand.tmp 58), type := 50, pos := "law.go:156", after := #[{ on := 7, ground := Go.Ground.data }], guard := none }) (v := ?_) rfl (by kernel_rfl) (by kernel_rfl) (by kernel_rfl) (fun _ _ _ h => h) (Or.inl ⟨by rfl, ?_⟩) (by assumption) ?_
          rotate_left
          · intro w hSw; (try dsimp only at hSw); go_simp; (try with_reducible rfl)
          try simp only [Act.put, List.setIfInBounds_toArray, List.set_cons_zero, List.set_cons_succ]
          refine wpAnyH_take (i := 9) (oi := { dst := some 60, op := Go.Op.move (Go.Operand.tmp 6), type := 3, pos := "law.go:156", after := #[], guard := none }) (v := ?_) rfl (by kernel_rfl) (by kernel_rfl) (by kernel_rfl) (fun _ _ _ h => h) (Or.inl ⟨by rfl, ?_⟩) (by assumption) ?_
          rotate_left
          · intro w hSw; (try dsimp only at hSw); go_simp; (try with_reducible rfl)
          try simp only [Act.put, List.setIfInBounds_toArray, List.set_cons_zero, List.set_cons_succ]
          refine wpAnyH_ready (rs := [10, 11]) (by kernel_rfl) (by simp) ?_
          refine AllReadyH.cons (o := { dst := some 61, op := Go.Op.call { callee := Go.Callee.value (Go.Operand.func 25), args := #[Go.Operand.tmp 51, Go.Operand.tmp 59, Go.Operand.tmp 60], argTypes := #[44, 50, 3] }, type := 55, pos := "law.go:156", after := #[{ on := 0, ground := Go.Ground.data }, { on := 8, ground := Go.Ground.data }, { on := 9, ground := Go.Ground.data }], guard := none }) rfl (fun K hK => ?_) ?_
          · go_simp
            (go_at_call 25; ((with_reducible refine (P3.out _).mono ?_); rintro e v3 ⟨rfl, gb3⟩))
            have HV3 : Hid (Below w2.heap.size w2 v3) := Lib.hid (by have h := HT2.out; have hz := h.size; have hz2 : w2.heap.size ≤ T2.heap.size := HT2.out.size; (repeat' (first | (with_reducible assumption) | (with_reducible exact Below.refl _ _) | (with_reducible refine bstep (by with_reducible assumption) ?_) | (with_reducible refine Below.alloc ?_ ?_ _) | (with_reducible refine Below.drew ?_) | (with_reducible refine below_drewN ?_ _) | (with_reducible refine Below.setCell ?_ ?_ _) | go_size)))
            have A1v := blk_later (by simp) gb3 (blk_drew A1)
            have A2v := blk_later (by simp) gb3 (blk_drew A2)
            refine hK.out _ _ ?_ (fun hHeld10 => ?_)
            · (try dsimp only); (exact fl_of HV3.out)
            clear hK K hHeld
            try simp only [Act.put, List.setIfInBounds_toArray, List.set_cons_zero, List.set_cons_succ]
            refine wpAnyH_ready (rs := [11]) (by kernel_rfl) (by simp) ?_
            refine AllReadyH.cons (o := { dst := some 11, op := Go.Op.alloc 55, type := 0, pos := "law.go:156", after := #[], guard := none }) rfl (fun K hK => ?_) AllReadyH.nil
            go_simp
            refine hK.out _ _ ?_ (fun hHeld11 => ?_)
            · (try dsimp only); (exact fl_of (by have h := HV3.out; have hz := h.size; have hz2 : w2.heap.size ≤ T2.heap.size := HT2.out.size; (repeat' (first | (with_reducible assumption) | (with_reducible exact Below.refl _ _) | (with_reducible refine bstep (by with_reducible assumption) ?_) | (with_reducible refine Below.alloc ?_ ?_ _) | (with_reducible refine Below.drew ?_) | (with_reducible refine below_drewN ?_ _) | (with_reducible refine Below.setCell ?_ ?_ _) | go_size))))
            clear hK K hHeld10
            try simp only [Act.put, List.setIfInBounds_toArray, List.set_cons_zero, List.set_cons_succ]
            refine wpAnyH_ready (rs := [12]) (by kernel_rfl) (by simp) ?_
            refine AllReadyH.cons (o := { dst := none, op := Go.Op.store 55 (Go.Operand.tmp 11) (Go.Operand.tmp 61), type := 0, pos := "law.go:156", after := #[{ on := 11, ground := Go.Ground.data }, { on := 10, ground := Go.Ground.data }, { on := 10, ground := Go.Ground.chain }, { on := 0, ground := Go.Ground.phase }, { on := 1, ground := Go.Ground.phase }, { on := 2, ground := Go.Ground.phase }, { on := 3, ground := Go.Ground.phase }, { on := 4, ground := Go.Ground.phase }, { on := 5, ground := Go.Ground.phase }, { on := 6, ground := Go.Ground.phase }, { on := 7, ground := Go.Ground.phase }, { on := 8, ground := Go.Ground.phase }, { on := 9, ground := Go.Ground.phase }, { on := 10, ground := Go.Ground.phase }, { on := 11, ground := Go.Ground.phase }], guard := none }) rfl (fun K hK => ?_) AllReadyH.nil
            go_simp
            refine hK.out _ _ ?_ (fun hHeld12 => ?_)
            · (try dsimp only); (exact fl_of (by have h := HV3.out; have hz := h.size; have hz2 : w2.heap.size ≤ T2.heap.size := HT2.out.size; (repeat' (first | (with_reducible assumption) | (with_reducible exact Below.refl _ _) | (with_reducible refine bstep (by with_reducible assumption) ?_) | (with_reducible refine Below.alloc ?_ ?_ _) | (with_reducible refine Below.drew ?_) | (with_reducible refine below_drewN ?_ _) | (with_reducible refine Below.setCell ?_ ?_ _) | go_size))))
            clear hK K hHeld11
            try simp only [Act.put, List.setIfInBounds_toArray, List.set_cons_zero, List.set_cons_succ]
            refine wpAnyH_done (by kernel_rfl) ?_ _
            clear hHeld12
            have A3 : ∀ o, (v3.alloc (.cells #[.int .i64 (X3 : Int), .int .i64 (Y3 : Int)] 55)).cell? ⟨v3.heap.size, o, none⟩ = (#[.int .i64 (X3 : Int), .int .i64 (Y3 : Int)] : Array Value)[o]? := new_at rfl _ _
            have A1t : ∀ o, (v3.alloc (.cells #[.int .i64 (X3 : Int), .int .i64 (Y3 : Int)] 55)).cell? ⟨n1', o, none⟩ = (#[.int .i64 (X1 : Int), .int .i64 (Y1 : Int)] : Array Value)[o]? := blk_alloc (by simp) _ A1v
            have A2t : ∀ o, (v3.alloc (.cells #[.int .i64 (X3 : Int), .int .i64 (Y3 : Int)] 55)).cell? ⟨n2', o, none⟩ = (#[.int .i64 (X2 : Int), .int .i64 (Y2 : Int)] : Array Value)[o]? := blk_alloc (by simp) _ A2v
            have HT3 : Hid (Below w2.heap.size w2 (v3.alloc (.cells #[.int .i64 (X3 : Int), .int .i64 (Y3 : Int)] 55))) := Lib.hid (by have h := HV3.out; have hz := h.size; have hz2 : w2.heap.size ≤ T2.heap.size := HT2.out.size; (repeat' (first | (with_reducible assumption) | (with_reducible exact Below.refl _ _) | (with_reducible refine bstep (by with_reducible assumption) ?_) | (with_reducible refine Below.alloc ?_ ?_ _) | (with_reducible refine Below.drew ?_) | (with_reducible refine below_drewN ?_ _) | (with_reducible refine Below.setCell ?_ ?_ _) | go_size)))
            generalize (v3.alloc (.cells #[.int .i64 (X3 : Int), .int .i64 (Y3 : Int)] 55)) = T3 at *
            obtain ⟨n3', hn3⟩ : ∃ n, v3.heap.size = n := ⟨_, rfl⟩
            rw [hn3] at A3 ⊢
            clear A1 A1v
            have A1 := A1t
            clear A1t
            clear A2 A2v
            have A2 := A2t
            clear A2t
            clear hn3 gb3
            clear HV3 v3
            clear K2
            have K3 := fl_of HT3.out
            clear C2
            have C3 := fun o => (K3 w.heap.size o L2).trans (C2 o)
            go_wp2_with fail
            go_roundg (M - (j + 1))
            case measure => omega
            case rel => exact ⟨j + 1, by omega, rfl, by rw [HSX.out], by simp, by first | exact HT3.out | exact HT3.out.drew | exact below_drewN HT3.out _⟩
          refine AllReadyH.cons (o := { dst := some 11, op := Go.Op.alloc 55, type := 0, pos := "law.go:156", after := #[], guard := none }) rfl (fun K hK => ?_) ?_
          · go_simp
            refine hK.out _ _ ?_ (fun hHeld11 => ?_)
            · (try dsimp only); (exact fl_of (by have h := HT2.out; have hz := h.size; have hz2 : w2.heap.size ≤ T2.heap.size := HT2.out.size; (repeat' (first | (with_reducible assumption) | (with_reducible exact Below.refl _ _) | (with_reducible refine bstep (by with_reducible assumption) ?_) | (with_reducible refine Below.alloc ?_ ?_ _) | (with_reducible refine Below.drew ?_) | (with_reducible refine below_drewN ?_ _) | (with_reducible refine Below.setCell ?_ ?_ _) | go_size))))
            clear hK K hHeld
            try simp only [Act.put, List.setIfInBounds_toArray, List.set_cons_zero, List.set_cons_succ]
            refine wpAnyH_ready (rs := [10]) (by kernel_rfl) (by simp) ?_
            refine AllReadyH.cons (o := { dst := some 61, op := Go.Op.call { callee := Go.Callee.value (Go.Operand.func 25), args := #[Go.Operand.tmp 51, Go.Operand.tmp 59, Go.Operand.tmp 60], argTypes := #[44, 50, 3] }, type := 55, pos := "law.go:156", after := #[{ on := 0, ground := Go.Ground.data }, { on := 8, ground := Go.Ground.data }, { on := 9, ground := Go.Ground.data }], guard := none }) rfl (fun K hK => ?_) AllReadyH.nil
            go_simp
            (go_at_call 25; ((with_reducible refine (P3.out _).mono ?_); rintro e v3 ⟨rfl, gb3⟩))
            have HV3 : Hid (Below w2.heap.size w2 v3) := Lib.hid (by have h := HT2.out; have hz := h.size; have hz2 : w2.heap.size ≤ T2.heap.size := HT2.out.size; (repeat' (first | (with_reducible assumption) | (with_reducible exact Below.refl _ _) | (with_reducible refine bstep (by with_reducible assumption) ?_) | (with_reducible refine Below.alloc ?_ ?_ _) | (with_reducible refine Below.drew ?_) | (with_reducible refine below_drewN ?_ _) | (with_reducible refine Below.setCell ?_ ?_ _) | go_size)))
            have A1v := blk_later (by simp) gb3 (blk_alloc (by simp) _ (blk_drew A1))
            have A2v := blk_later (by simp) gb3 (blk_alloc (by simp) _ (blk_drew A2))
            have D3 : ∀ o, v3.cell? ⟨T2.heap.size, o, none⟩ = (#[.int .i64 0, .int .i64 0] : Array Value)[o]? := blk_later (by simp) gb3 (new_at rfl _ _)
            have E3 : ∀ o, v3.frozen? ⟨T2.heap.size, o, none⟩ = false := fro_call gb3 (fro_new rfl _ _) (lt_new rfl)
            have s3 : T2.heap.size < v3.heap.size := blk_lt (by simp) D3
            refine hK.out _ _ ?_ (fun hHeld10 => ?_)
            · (try dsimp only); (exact fl_of HV3.out)
            clear hK K hHeld11
            try simp only [Act.put, List.setIfInBounds_toArray, List.set_cons_zero, List.set_cons_succ]
            refine wpAnyH_ready (rs := [12]) (by kernel_rfl) (by simp) ?_
            refine AllReadyH.cons (o := { dst := none, op := Go.Op.store 55 (Go.Operand.tmp 11) (Go.Operand.tmp 61), type := 0, pos := "law.go:156", after := #[{ on := 11, ground := Go.Ground.data }, { on := 10, ground := Go.Ground.data }, { on := 10, ground := Go.Ground.chain }, { on := 0, ground := Go.Ground.phase }, { on := 1, ground := Go.Ground.phase }, { on := 2, ground := Go.Ground.phase }, { on := 3, ground := Go.Ground.phase }, { on := 4, ground := Go.Ground.phase }, { on := 5, ground := Go.Ground.phase }, { on := 6, ground := Go.Ground.phase }, { on := 7, ground := Go.Ground.phase }, { on := 8, ground := Go.Ground.phase }, { on := 9, ground := Go.Ground.phase }, { on := 10, ground := Go.Ground.phase }, { on := 11, ground := Go.Ground.phase }], guard := none }) rfl (fun K hK => ?_) AllReadyH.nil
            go_simp
            refine hK.out _ _ ?_ (fun hHeld12 => ?_)
            · (try dsimp only); (exact fl_of (by have h := HV3.out; have hz := h.size; have hz2 : w2.heap.size ≤ T2.heap.size := HT2.out.size; (repeat' (first | (with_reducible assumption) | (with_reducible exact Below.refl _ _) | (with_reducible refine bstep (by with_reducible assumption) ?_) | (with_reducible refine Below.alloc ?_ ?_ _) | (with_reducible refine Below.drew ?_) | (with_reducible refine below_drewN ?_ _) | (with_reducible refine Below.setCell ?_ ?_ _) | go_size))))
            clear hK K hHeld10
            try simp only [Act.put, List.setIfInBounds_toArray, List.set_cons_zero, List.set_cons_succ]
            refine wpAnyH_done (by kernel_rfl) ?_ _
            clear hHeld12
            have A3 : ∀ o, ((v3.setCell ⟨T2.heap.size, 0, none⟩ (.int .i64 (X3 : Int))).setCell ⟨T2.heap.size, 1, none⟩ (.int .i64 (Y3 : Int))).cell? ⟨T2.heap.size, o, none⟩ = (#[.int .i64 (X3 : Int), .int .i64 (Y3 : Int)] : Array Value)[o]? := st2_blk D3 _ _
            have A1t : ∀ o, ((v3.setCell ⟨T2.heap.size, 0, none⟩ (.int .i64 (X3 : Int))).setCell ⟨T2.heap.size, 1, none⟩ (.int .i64 (Y3 : Int))).cell? ⟨n1', o, none⟩ = (#[.int .i64 (X1 : Int), .int .i64 (Y1 : Int)] : Array Value)[o]? := st2_far (Nat.ne_of_gt (blk_lt (by simp) A1)) A1v
            have A2t : ∀ o, ((v3.setCell ⟨T2.heap.size, 0, none⟩ (.int .i64 (X3 : Int))).setCell ⟨T2.heap.size, 1, none⟩ (.int .i64 (Y3 : Int))).cell? ⟨n2', o, none⟩ = (#[.int .i64 (X2 : Int), .int .i64 (Y2 : Int)] : Array Value)[o]? := st2_far (Nat.ne_of_gt (blk_lt (by simp) A2)) A2v
            have HT3 : Hid (Below w2.heap.size w2 ((v3.setCell ⟨T2.heap.size, 0, none⟩ (.int .i64 (X3 : Int))).setCell ⟨T2.heap.size, 1, none⟩ (.int .i64 (Y3 : Int)))) := Lib.hid (by have h := HV3.out; have hz := h.size; have hz2 : w2.heap.size ≤ T2.heap.size := HT2.out.size; (repeat' (first | (with_reducible assumption) | (with_reducible exact Below.refl _ _) | (with_reducible refine bstep (by with_reducible assumption) ?_) | (with_reducible refine Below.alloc ?_ ?_ _) | (with_reducible refine Below.drew ?_) | (with_reducible refine below_drewN ?_ _) | (with_reducible refine Below.setCell ?_ ?_ _) | go_size)))
            generalize ((v3.setCell ⟨T2.heap.size, 0, none⟩ (.int .i64 (X3 : Int))).setCell ⟨T2.heap.size, 1, none⟩ (.int .i64 (Y3 : Int))) = T3 at *
            obtain ⟨n3', hn3⟩ : ∃ n, T2.heap.size = n := ⟨_, rfl⟩
            rw [hn3] at A3 ⊢
            clear A1 A1v
            have A1 := A1t
            clear A1t
            clear A2 A2v
            have A2 := A2t
            clear A2t
            clear hn3 D3 E3 s3 gb3
            clear HV3 v3
            clear K2
            have K3 := fl_of HT3.out
            clear C2
            have C3 := fun o => (K3 w.heap.size o L2).trans (C2 o)
            go_wp2_with fail
            go_roundg (M - (j + 1))
            case measure => omega
            case rel => exact ⟨j + 1, by omega, rfl, by rw [HSX.out], by simp, by first | exact HT3.out | exact HT3.out.drew | exact below_drewN HT3.out _⟩
          exact AllReadyH.nil
        refine AllReadyH.cons (o := { dst := some 10, op := Go.Op.alloc 55, type := 0, pos := "law.go:155", after := #[], guard := none }) rfl (fun K hK => ?_) ?_
        · go_simp
          refine hK.out _ _ ?_ (fun hHeld11 => ?_)
          · (try dsimp only); (exact fl_of (by have h := HT1.out; have hz := h.size; have hz2 : w2.heap.size ≤ T1.heap.size := HT1.out.size; (repeat' (first | (with_reducible assumption) | (with_reducible exact Below.refl _ _) | (with_reducible refine bstep (by with_reducible assumption) ?_) | (with_reducible refine Below.alloc ?_ ?_ _) | (with_reducible refine Below.drew ?_) | (with_reducible refine below_drewN ?_ _) | (with_reducible refine Below.setCell ?_ ?_ _) | go_size))))
          clear hK K hHeld
          try simp only [Act.put, List.setIfInBounds_toArray, List.set_cons_zero, List.set_cons_succ]
          refine wpAnyH_ready (rs := [10]) (by kernel_rfl) (by simp) ?_
          refine AllReadyH.cons (o := { dst := some 50, op := Go.Op.call { callee := Go.Callee.value (Go.Operand.func 25), args := #[Go.Operand.tmp 40, Go.Operand.tmp 48, Go.Operand.tmp 49], argTypes := #[44, 50, 3] }, type := 55, pos := "law.go:155", after := #[{ on := 0, ground := Go.Ground.data }, { on := 8, ground := Go.Ground.data }, { on := 9, ground := Go.Ground.data }], guard := none }) rfl (fun K hK => ?_) AllReadyH.nil
          go_simp
          (go_at_call 25; ((with_reducible refine (P2'.out _).mono ?_); rintro e v2 ⟨rfl, gb2⟩))
          have HV2 : Hid (Below w2.heap.size w2 v2) := Lib.hid (by have h := HT1.out; have hz := h.size; have hz2 : w2.heap.size ≤ T1.heap.size := HT1.out.size; (repeat' (first | (with_reducible assumption) | (with_reducible exact Below.refl _ _) | (with_reducible refine bstep (by with_reducible assumption) ?_) | (with_reducible refine Below.alloc ?_ ?_ _) | (with_reducible refine Below.drew ?_) | (with_reducible refine below_drewN ?_ _) | (with_reducible refine Below.setCell ?_ ?_ _) | go_size)))
          have A1v := blk_later (by simp) gb2 (blk_alloc (by simp) _ (blk_drew A1))
          have D2 : ∀ o, v2.cell? ⟨T1.heap.size, o, none⟩ = (#[.int .i64 0, .int .i64 0] : Array Value)[o]? := blk_later (by simp) gb2 (new_at rfl _ _)
          have E2 : ∀ o, v2.frozen? ⟨T1.heap.size, o, none⟩ = false := fro_call gb2 (fro_new rfl _ _) (lt_new rfl)
          have s2 : T1.heap.size < v2.heap.size := blk_lt (by simp) D2
          refine hK.out _ _ ?_ (fun hHeld10 => ?_)
          · (try dsimp only); (exact fl_of HV2.out)
          clear hK K hHeld11
          try simp only [Act.put, List.setIfInBounds_toArray, List.set_cons_zero, List.set_cons_succ]
          refine wpAnyH_ready (rs := [12]) (by kernel_rfl) (by simp) ?_
          refine AllReadyH.cons (o := { dst := none, op := Go.Op.store 55 (Go.Operand.tmp 10) (Go.Operand.tmp 50), type := 0, pos := "law.go:155", after := #[{ on := 11, ground := Go.Ground.data }, { on := 10, ground := Go.Ground.data }, { on := 10, ground := Go.Ground.chain }, { on := 0, ground := Go.Ground.phase }, { on := 1, ground := Go.Ground.phase }, { on := 2, ground := Go.Ground.phase }, { on := 3, ground := Go.Ground.phase }, { on := 4, ground := Go.Ground.phase }, { on := 5, ground := Go.Ground.phase }, { on := 6, ground := Go.Ground.phase }, { on := 7, ground := Go.Ground.phase }, { on := 8, ground := Go.Ground.phase }, { on := 9, ground := Go.Ground.phase }, { on := 10, ground := Go.Ground.phase }, { on := 11, ground := Go.Ground.phase }], guard := none }) rfl (fun K hK => ?_) AllReadyH.nil
          go_simp
          refine hK.out _ _ ?_ (fun hHeld12 => ?_)
          · (try dsimp only); (exact fl_of (by have h := HV2.out; have hz := h.size; have hz2 : w2.heap.size ≤ T1.heap.size := HT1.out.size; (repeat' (first | (with_reducible assumption) | (with_reducible exact Below.refl _ _) | (with_reducible refine bstep (by with_reducible assumption) ?_) | (with_reducible refine Below.alloc ?_ ?_ _) | (with_reducible refine Below.drew ?_) | (with_reducible refine below_drewN ?_ _) | (with_reducible refine Below.setCell ?_ ?_ _) | go_size))))
          clear hK K hHeld10
          try simp only [Act.put, List.setIfInBounds_toArray, List.set_cons_zero, List.set_cons_succ]
          refine wpAnyH_done (by kernel_rfl) ?_ _
          clear hHeld12
          have A2 : ∀ o, ((v2.setCell ⟨T1.heap.size, 0, none⟩ (.int .i64 (X2 : Int))).setCell ⟨T1.heap.size, 1, none⟩ (.int .i64 (Y2 : Int))).cell? ⟨T1.heap.size, o, none⟩ = (#[.int .i64 (X2 : Int), .int .i64 (Y2 : Int)] : Array Value)[o]? := st2_blk D2 _ _
          have A1t : ∀ o, ((v2.setCell ⟨T1.heap.size, 0, none⟩ (.int .i64 (X2 : Int))).setCell ⟨T1.heap.size, 1, none⟩ (.int .i64 (Y2 : Int))).cell? ⟨n1', o, none⟩ = (#[.int .i64 (X1 : Int), .int .i64 (Y1 : Int)] : Array Value)[o]? := st2_far (Nat.ne_of_gt (blk_lt (by simp) A1)) A1v
          have HT2 : Hid (Below w2.heap.size w2 ((v2.setCell ⟨T1.heap.size, 0, none⟩ (.int .i64 (X2 : Int))).setCell ⟨T1.heap.size, 1, none⟩ (.int .i64 (Y2 : Int)))) := Lib.hid (by have h := HV2.out; have hz := h.size; have hz2 : w2.heap.size ≤ T1.heap.size := HT1.out.size; (repeat' (first | (with_reducible assumption) | (with_reducible exact Below.refl _ _) | (with_reducible refine bstep (by with_reducible assumption) ?_) | (with_reducible refine Below.alloc ?_ ?_ _) | (with_reducible refine Below.drew ?_) | (with_reducible refine below_drewN ?_ _) | (with_reducible refine Below.setCell ?_ ?_ _) | go_size)))
          generalize ((v2.setCell ⟨T1.heap.size, 0, none⟩ (.int .i64 (X2 : Int))).setCell ⟨T1.heap.size, 1, none⟩ (.int .i64 (Y2 : Int))) = T2 at *
          obtain ⟨n2', hn2⟩ : ∃ n, T1.heap.size = n := ⟨_, rfl⟩
          rw [hn2] at A2 ⊢
          clear A1 A1v
          have A1 := A1t
          clear A1t
          clear hn2 D2 E2 s2 gb2
          clear HV2 v2
          clear K1
          have K2 := fl_of HT2.out
          clear C1
          have C2 := fun o => (K2 w.heap.size o L2).trans (C2 o)
          go_wp2_with fail
          refine wp_region_held_drew (S := (fun w' => (∀ b o, b < w2.heap.size → w'.cell? ⟨b, o, none⟩ = w2.cell? ⟨b, o, none⟩))) (by kernel_rfl) ?_ (fun hHeld => ?_)
          · (try dsimp only); (exact K2)
          refine wpAnyH_take (i := 0) (oi := { dst := some 51, op := Go.Op.load 44 (Go.Operand.tmp 1), type := 44, pos := "law.go:156", after := #[], guard := none }) (v := ?_) rfl (by kernel_rfl) (by kernel_rfl) (by kernel_rfl) (fun _ _ _ h => h) (Or.inl ⟨by rfl, ?_⟩) (by assumption) ?_
          rotate_left
          · intro w hSw; (try dsimp only at hSw); go_simp; (try with_reducible rfl)
          try simp only [Act.put, List.setIfInBounds_toArray, List.set_cons_zero, List.set_cons_succ]
          refine wpAnyH_take (i := 1) (oi := { dst := some 52, op := Go.Op.move (Go.Operand.tmp 3), type := 45, pos := "law.go:156", after := #[], guard := none }) (v := ?_) rfl (by kernel_rfl) (by kernel_rfl) (by kernel_rfl) (fun _ _ _ h => h) (Or.inl ⟨by rfl, ?_⟩) (by assumption) ?_
          rotate_left
          · intro w hSw; (try dsimp only at hSw); go_simp; (try with_reducible rfl)
          try simp only [Act.put, List.setIfInBounds_toArray, List.set_cons_zero, List.set_cons_succ]
          refine wpAnyH_take (i := 2) (oi := { dst := some 53, op := Go.Op.move (Go.Operand.tmp 4), type := 46, pos := "law.go:156", after := #[], guard := none }) (v := ?_) rfl (by kernel_rfl) (by kernel_rfl) (by kernel_rfl) (fun _ _ _ h => h) (Or.inl ⟨by rfl, ?_⟩) (by assumption) ?_
          rotate_left
          · intro w hSw; (try dsimp only at hSw); go_simp; (try with_reducible rfl)
          try simp only [Act.put, List.setIfInBounds_toArray, List.set_cons_zero, List.set_cons_succ]
          refine wpAnyH_take (i := 3) (oi := { dst := some 54, op := Go.Op.move (Go.Operand.tmp 8), type := 3, pos := "law.go:156", after := #[], guard := none }) (v := ?_) rfl (by kernel_rfl) (by kernel_rfl) (by kernel_rfl) (fun _ _ _ h => h) (Or.inl ⟨by rfl, ?_⟩) (by assumption) ?_
          rotate_left
          · intro w hSw; (try dsimp only at hSw); go_simp; (try with_reducible rfl)
          try simp only [Act.put, List.setIfInBounds_toArray, List.set_cons_zero, List.set_cons_succ]
          refine wpAnyH_take (i := 4) (oi := { dst := some 55, op := Go.Op.indexAddr 46 (Go.Operand.tmp 53) (Go.Operand.tmp 54), type := 0, pos := "law.go:156", after := #[{ on := 2, ground := Go.Ground.data }, { on := 3, ground := Go.Ground.data }], guard := none }) (v := ?_) rfl (by kernel_rfl) (by kernel_rfl) (by kernel_rfl) (fun _ _ _ h => h) (Or.inl ⟨by rfl, ?_⟩) (by assumption) ?_
          rotate_left
          · intro w hSw; (try dsimp only at hSw); go_simp; (try with_reducible rfl)
          try simp only [Act.put, List.setIfInBounds_toArray, List.set_cons_zero, List.set_cons_succ]
          refine wpAnyH_take (i := 5) (oi := { dst := some 56, op := Go.Op.indexAddr 51 (Go.Operand.tmp 55) (Go.Operand.const (Go.Value.int Go.IntKind.i64 2)), type := 0, pos := "law.go:156", after := #[{ on := 4, ground := Go.Ground.data }], guard := none }) (v := ?_) rfl (by kernel_rfl) (by kernel_rfl) (by kernel_rfl) (fun _ _ _ h => h) (Or.inl ⟨by rfl, ?_⟩) (by assumption) ?_
          rotate_left
          · intro w hSw; (try dsimp only at hSw); go_simp; (try with_reducible rfl)
          try simp only [Act.put, List.setIfInBounds_toArray, List.set_cons_zero, List.set_cons_succ]
          refine wpAnyH_take (i := 6) (oi := { dst := some 57, op := Go.Op.load 3 (Go.Operand.tmp 56), type := 3, pos := "law.go:156", after := #[{ on := 5, ground := Go.Ground.data }], guard := none }) (v := ?_) rfl (by kernel_rfl) (by kernel_rfl) (by kernel_rfl) (fun _ _ _ h => h) (Or.inl ⟨by rfl, ?_⟩) (by assumption) ?_
          rotate_left
          · intro w hSw; (try dsimp only at hSw); go_simp; (try with_reducible rfl)
          try simp only [Act.put, List.setIfInBounds_toArray, List.set_cons_zero, List.set_cons_succ]
          refine wpAnyH_take (i := 7) (oi := { dst := some 58, op := Go.Op.indexAddr 45 (Go.Operand.tmp 52) (Go.Operand.tmp 57), type := 0, pos := "law.go:156", after := #[{ on := 1, ground := Go.Ground.data }, { on := 6, ground := Go.Ground.data }], guard := none }) (v := ?_) rfl (by kernel_rfl) (by kernel_rfl) (by kernel_rfl) (fun _ _ _ h => h) (Or.inl ⟨by rfl, ?_⟩) (by assumption) ?_
          rotate_left
          · intro w hSw; (try dsimp only at hSw); go_simp; (try with_reducible rfl)
          try simp only [Act.put, List.setIfInBounds_toArray, List.set_cons_zero, List.set_cons_succ]
          refine wpAnyH_take (i := 8) (oi := { dst := some 59, op := Go.Op.load 50 (Go.Operand.tmp 58), type := 50, pos := "law.go:156", after := #[{ on := 7, ground := Go.Ground.data }], guard := none }) (v := ?_) rfl (by kernel_rfl) (by kernel_rfl) (by kernel_rfl) (fun _ _ _ h => h) (Or.inl ⟨by rfl, ?_⟩) (by assumption) ?_
          rotate_left
          · intro w hSw; (try dsimp only at hSw); go_simp; (try with_reducible rfl)
          try simp only [Act.put, List.setIfInBounds_toArray, List.set_cons_zero, List.set_cons_succ]
          refine wpAnyH_take (i := 9) (oi := { dst := some 60, op := Go.Op.move (Go.Operand.tmp 6), type := 3, pos := "law.go:156", after := #[], guard := none }) (v := ?_) rfl (by kernel_rfl) (by kernel_rfl) (by kernel_rfl) (fun _ _ _ h => h) (Or.inl ⟨by rfl, ?_⟩) (by assumption) ?_
          rotate_left
          · intro w hSw; (try dsimp only at hSw); go_simp; (try with_reducible rfl)
          try simp only [Act.put, List.setIfInBounds_toArray, List.set_cons_zero, List.set_cons_succ]
          refine wpAnyH_ready (rs := [10, 11]) (by kernel_rfl) (by simp) ?_
          refine AllReadyH.cons (o := { dst := some 61, op := Go.Op.call { callee := Go.Callee.value (Go.Operand.func 25), args := #[Go.Operand.tmp 51, Go.Operand.tmp 59, Go.Operand.tmp 60], argTypes := #[44, 50, 3] }, type := 55, pos := "law.go:156", after := #[{ on := 0, ground := Go.Ground.data }, { on := 8, ground := Go.Ground.data }, { on := 9, ground := Go.Ground.data }], guard := none }) rfl (fun K hK => ?_) ?_
          · go_simp
            (go_at_call 25; ((with_reducible refine (P3.out _).mono ?_); rintro e v3 ⟨rfl, gb3⟩))
            have HV3 : Hid (Below w2.heap.size w2 v3) := Lib.hid (by have h := HT2.out; have hz := h.size; have hz2 : w2.heap.size ≤ T2.heap.size := HT2.out.size; (repeat' (first | (with_reducible assumption) | (with_reducible exact Below.refl _ _) | (with_reducible refine bstep (by with_reducible assumption) ?_) | (with_reducible refine Below.alloc ?_ ?_ _) | (with_reducible refine Below.drew ?_) | (with_reducible refine below_drewN ?_ _) | (with_reducible refine Below.setCell ?_ ?_ _) | go_size)))
            have A1v := blk_later (by simp) gb3 (blk_drew A1)
            have A2v := blk_later (by simp) gb3 (blk_drew A2)
            refine hK.out _ _ ?_ (fun hHeld10 => ?_)
            · (try dsimp only); (exact fl_of HV3.out)
            clear hK K hHeld
            try simp only [Act.put, List.setIfInBounds_toArray, List.set_cons_zero, List.set_cons_succ]
            refine wpAnyH_ready (rs := [11]) (by kernel_rfl) (by simp) ?_
            refine AllReadyH.cons (o := { dst := some 11, op := Go.Op.alloc 55, type := 0, pos := "law.go:156", after := #[], guard := none }) rfl (fun K hK => ?_) AllReadyH.nil
            go_simp
            refine hK.out _ _ ?_ (fun hHeld11 => ?_)
            · (try dsimp only); (exact fl_of (by have h := HV3.out; have hz := h.size; have hz2 : w2.heap.size ≤ T2.heap.size := HT2.out.size; (repeat' (first | (with_reducible assumption) | (with_reducible exact Below.refl _ _) | (with_reducible refine bstep (by with_reducible assumption) ?_) | (with_reducible refine Below.alloc ?_ ?_ _) | (with_reducible refine Below.drew ?_) | (with_reducible refine below_drewN ?_ _) | (with_reducible refine Below.setCell ?_ ?_ _) | go_size))))
            clear hK K hHeld10
            try simp only [Act.put, List.setIfInBounds_toArray, List.set_cons_zero, List.set_cons_succ]
            refine wpAnyH_ready (rs := [12]) (by kernel_rfl) (by simp) ?_
            refine AllReadyH.cons (o := { dst := none, op := Go.Op.store 55 (Go.Operand.tmp 11) (Go.Operand.tmp 61), type := 0, pos := "law.go:156", after := #[{ on := 11, ground := Go.Ground.data }, { on := 10, ground := Go.Ground.data }, { on := 10, ground := Go.Ground.chain }, { on := 0, ground := Go.Ground.phase }, { on := 1, ground := Go.Ground.phase }, { on := 2, ground := Go.Ground.phase }, { on := 3, ground := Go.Ground.phase }, { on := 4, ground := Go.Ground.phase }, { on := 5, ground := Go.Ground.phase }, { on := 6, ground := Go.Ground.phase }, { on := 7, ground := Go.Ground.phase }, { on := 8, ground := Go.Ground.phase }, { on := 9, ground := Go.Ground.phase }, { on := 10, ground := Go.Ground.phase }, { on := 11, ground := Go.Ground.phase }], guard := none }) rfl (fun K hK => ?_) AllReadyH.nil
            go_simp
            refine hK.out _ _ ?_ (fun hHeld12 => ?_)
            · (try dsimp only); (exact fl_of (by have h := HV3.out; have hz := h.size; have hz2 : w2.heap.size ≤ T2.heap.size := HT2.out.size; (repeat' (first | (with_reducible assumption) | (with_reducible exact Below.refl _ _) | (with_reducible refine bstep (by with_reducible assumption) ?_) | (with_reducible refine Below.alloc ?_ ?_ _) | (with_reducible refine Below.drew ?_) | (with_reducible refine below_drewN ?_ _) | (with_reducible refine Below.setCell ?_ ?_ _) | go_size))))
            clear hK K hHeld11
            try simp only [Act.put, List.setIfInBounds_toArray, List.set_cons_zero, List.set_cons_succ]
            refine wpAnyH_done (by kernel_rfl) ?_ _
            clear hHeld12
            have A3 : ∀ o, (v3.alloc (.cells #[.int .i64 (X3 : Int), .int .i64 (Y3 : Int)] 55)).cell? ⟨v3.heap.size, o, none⟩ = (#[.int .i64 (X3 : Int), .int .i64 (Y3 : Int)] : Array Value)[o]? := new_at rfl _ _
            have A1t : ∀ o, (v3.alloc (.cells #[.int .i64 (X3 : Int), .int .i64 (Y3 : Int)] 55)).cell? ⟨n1', o, none⟩ = (#[.int .i64 (X1 : Int), .int .i64 (Y1 : Int)] : Array Value)[o]? := blk_alloc (by simp) _ A1v
            have A2t : ∀ o, (v3.alloc (.cells #[.int .i64 (X3 : Int), .int .i64 (Y3 : Int)] 55)).cell? ⟨n2', o, none⟩ = (#[.int .i64 (X2 : Int), .int .i64 (Y2 : Int)] : Array Value)[o]? := blk_alloc (by simp) _ A2v
            have HT3 : Hid (Below w2.heap.size w2 (v3.alloc (.cells #[.int .i64 (X3 : Int), .int .i64 (Y3 : Int)] 55))) := Lib.hid (by have h := HV3.out; have hz := h.size; have hz2 : w2.heap.size ≤ T2.heap.size := HT2.out.size; (repeat' (first | (with_reducible assumption) | (with_reducible exact Below.refl _ _) | (with_reducible refine bstep (by with_reducible assumption) ?_) | (with_reducible refine Below.alloc ?_ ?_ _) | (with_reducible refine Below.drew ?_) | (with_reducible refine below_drewN ?_ _) | (with_reducible refine Below.setCell ?_ ?_ _) | go_size)))
            generalize (v3.alloc (.cells #[.int .i64 (X3 : Int), .int .i64 (Y3 : Int)] 55)) = T3 at *
            obtain ⟨n3', hn3⟩ : ∃ n, v3.heap.size = n := ⟨_, rfl⟩
            rw [hn3] at A3 ⊢
            clear A1 A1v
            have A1 := A1t
            clear A1t
            clear A2 A2v
            have A2 := A2t
            clear A2t
            clear hn3 gb3
            clear HV3 v3
            clear K2
            have K3 := fl_of HT3.out
            clear C2
            have C3 := fun o => (K3 w.heap.size o L2).trans (C2 o)
            go_wp2_with fail
            go_roundg (M - (j + 1))
            case measure => omega
            case rel => exact ⟨j + 1, by omega, rfl, by rw [HSX.out], by simp, by first | exact HT3.out | exact HT3.out.drew | exact below_drewN HT3.out _⟩
          refine AllReadyH.cons (o := { dst := some 11, op := Go.Op.alloc 55, type := 0, pos := "law.go:156", after := #[], guard := none }) rfl (fun K hK => ?_) ?_
          · go_simp
            refine hK.out _ _ ?_ (fun hHeld11 => ?_)
            · (try dsimp only); (exact fl_of (by have h := HT2.out; have hz := h.size; have hz2 : w2.heap.size ≤ T2.heap.size := HT2.out.size; (repeat' (first | (with_reducible assumption) | (with_reducible exact Below.refl _ _) | (with_reducible refine bstep (by with_reducible assumption) ?_) | (with_reducible refine Below.alloc ?_ ?_ _) | (with_reducible refine Below.drew ?_) | (with_reducible refine below_drewN ?_ _) | (with_reducible refine Below.setCell ?_ ?_ _) | go_size))))
            clear hK K hHeld
            try simp only [Act.put, List.setIfInBounds_toArray, List.set_cons_zero, List.set_cons_succ]
            refine wpAnyH_ready (rs := [10]) (by kernel_rfl) (by simp) ?_
            refine AllReadyH.cons (o := { dst := some 61, op := Go.Op.call { callee := Go.Callee.value (Go.Operand.func 25), args := #[Go.Operand.tmp 51, Go.Operand.tmp 59, Go.Operand.tmp 60], argTypes := #[44, 50, 3] }, type := 55, pos := "law.go:156", after := #[{ on := 0, ground := Go.Ground.data }, { on := 8, ground := Go.Ground.data }, { on := 9, ground := Go.Ground.data }], guard := none }) rfl (fun K hK => ?_) AllReadyH.nil
            go_simp
            (go_at_call 25; ((with_reducible refine (P3.out _).mono ?_); rintro e v3 ⟨rfl, gb3⟩))
            have HV3 : Hid (Below w2.heap.size w2 v3) := Lib.hid (by have h := HT2.out; have hz := h.size; have hz2 : w2.heap.size ≤ T2.heap.size := HT2.out.size; (repeat' (first | (with_reducible assumption) | (with_reducible exact Below.refl _ _) | (with_reducible refine bstep (by with_reducible assumption) ?_) | (with_reducible refine Below.alloc ?_ ?_ _) | (with_reducible refine Below.drew ?_) | (with_reducible refine below_drewN ?_ _) | (with_reducible refine Below.setCell ?_ ?_ _) | go_size)))
            have A1v := blk_later (by simp) gb3 (blk_alloc (by simp) _ (blk_drew A1))
            have A2v := blk_later (by simp) gb3 (blk_alloc (by simp) _ (blk_drew A2))
            have D3 : ∀ o, v3.cell? ⟨T2.heap.size, o, none⟩ = (#[.int .i64 0, .int .i64 0] : Array Value)[o]? := blk_later (by simp) gb3 (new_at rfl _ _)
            have E3 : ∀ o, v3.frozen? ⟨T2.heap.size, o, none⟩ = false := fro_call gb3 (fro_new rfl _ _) (lt_new rfl)
            have s3 : T2.heap.size < v3.heap.size := blk_lt (by simp) D3
            refine hK.out _ _ ?_ (fun hHeld10 => ?_)
            · (try dsimp only); (exact fl_of HV3.out)
            clear hK K hHeld11
            try simp only [Act.put, List.setIfInBounds_toArray, List.set_cons_zero, List.set_cons_succ]
            refine wpAnyH_ready (rs := [12]) (by kernel_rfl) (by simp) ?_
            refine AllReadyH.cons (o := { dst := none, op := Go.Op.store 55 (Go.Operand.tmp 11) (Go.Operand.tmp 61), type := 0, pos := "law.go:156", after := #[{ on := 11, ground := Go.Ground.data }, { on := 10, ground := Go.Ground.data }, { on := 10, ground := Go.Ground.chain }, { on := 0, ground := Go.Ground.phase }, { on := 1, ground := Go.Ground.phase }, { on := 2, ground := Go.Ground.phase }, { on := 3, ground := Go.Ground.phase }, { on := 4, ground := Go.Ground.phase }, { on := 5, ground := Go.Ground.phase }, { on := 6, ground := Go.Ground.phase }, { on := 7, ground := Go.Ground.phase }, { on := 8, ground := Go.Ground.phase }, { on := 9, ground := Go.Ground.phase }, { on := 10, ground := Go.Ground.phase }, { on := 11, ground := Go.Ground.phase }], guard := none }) rfl (fun K hK => ?_) AllReadyH.nil
            go_simp
            refine hK.out _ _ ?_ (fun hHeld12 => ?_)
            · (try dsimp only); (exact fl_of (by have h := HV3.out; have hz := h.size; have hz2 : w2.heap.size ≤ T2.heap.size := HT2.out.size; (repeat' (first | (with_reducible assumption) | (with_reducible exact Below.refl _ _) | (with_reducible refine bstep (by with_reducible assumption) ?_) | (with_reducible refine Below.alloc ?_ ?_ _) | (with_reducible refine Below.drew ?_) | (with_reducible refine below_drewN ?_ _) | (with_reducible refine Below.setCell ?_ ?_ _) | go_size))))
            clear hK K hHeld10
            try simp only [Act.put, List.setIfInBounds_toArray, List.set_cons_zero, List.set_cons_succ]
            refine wpAnyH_done (by kernel_rfl) ?_ _
            clear hHeld12
            have A3 : ∀ o, ((v3.setCell ⟨T2.heap.size, 0, none⟩ (.int .i64 (X3 : Int))).setCell ⟨T2.heap.size, 1, none⟩ (.int .i64 (Y3 : Int))).cell? ⟨T2.heap.size, o, none⟩ = (#[.int .i64 (X3 : Int), .int .i64 (Y3 : Int)] : Array Value)[o]? := st2_blk D3 _ _
            have A1t : ∀ o, ((v3.setCell ⟨T2.heap.size, 0, none⟩ (.int .i64 (X3 : Int))).setCell ⟨T2.heap.size, 1, none⟩ (.int .i64 (Y3 : Int))).cell? ⟨n1', o, none⟩ = (#[.int .i64 (X1 : Int), .int .i64 (Y1 : Int)] : Array Value)[o]? := st2_far (Nat.ne_of_gt (blk_lt (by simp) A1)) A1v
            have A2t : ∀ o, ((v3.setCell ⟨T2.heap.size, 0, none⟩ (.int .i64 (X3 : Int))).setCell ⟨T2.heap.size, 1, none⟩ (.int .i64 (Y3 : Int))).cell? ⟨n2', o, none⟩ = (#[.int .i64 (X2 : Int), .int .i64 (Y2 : Int)] : Array Value)[o]? := st2_far (Nat.ne_of_gt (blk_lt (by simp) A2)) A2v
            have HT3 : Hid (Below w2.heap.size w2 ((v3.setCell ⟨T2.heap.size, 0, none⟩ (.int .i64 (X3 : Int))).setCell ⟨T2.heap.size, 1, none⟩ (.int .i64 (Y3 : Int)))) := Lib.hid (by have h := HV3.out; have hz := h.size; have hz2 : w2.heap.size ≤ T2.heap.size := HT2.out.size; (repeat' (first | (with_reducible assumption) | (with_reducible exact Below.refl _ _) | (with_reducible refine bstep (by with_reducible assumption) ?_) | (with_reducible refine Below.alloc ?_ ?_ _) | (with_reducible refine Below.drew ?_) | (with_reducible refine below_drewN ?_ _) | (with_reducible refine Below.setCell ?_ ?_ _) | go_size)))
            generalize ((v3.setCell ⟨T2.heap.size, 0, none⟩ (.int .i64 (X3 : Int))).setCell ⟨T2.heap.size, 1, none⟩ (.int .i64 (Y3 : Int))) = T3 at *
            obtain ⟨n3', hn3⟩ : ∃ n, T2.heap.size = n := ⟨_, rfl⟩
            rw [hn3] at A3 ⊢
            clear A1 A1v
            have A1 := A1t
            clear A1t
            clear A2 A2v
            have A2 := A2t
            clear A2t
            clear hn3 D3 E3 s3 gb3
            clear HV3 v3
            clear K2
            have K3 := fl_of HT3.out
            clear C2
            have C3 := fun o => (K3 w.heap.size o L2).trans (C2 o)
            go_wp2_with fail
            go_roundg (M - (j + 1))
            case measure => omega
            case rel => exact ⟨j + 1, by omega, rfl, by rw [HSX.out], by simp, by first | exact HT3.out | exact HT3.out.drew | exact below_drewN HT3.out _⟩
          exact AllReadyH.nil
        exact AllReadyH.nil
      exact AllReadyH.nil
    · obtain rfl : j = M := by omega
      have hj1 : ¬ ((j : Int) < (j : Int)) := by omega
      have hS : sumA R ((trisN R).take j) = 1038874636800 := by rw [← HM.out, List.take_length, HPS.out]; rfl
      rw [hS]
      clear hS hb
      go_wp2_with fail
      have HB' := bstep HBW.out HB2.out
      go_returns
      exact ⟨by simp, HB'⟩
theorem weaveFlat_walk (xs : List Int) (hl : xs.length = 4) (_ : ∀ x ∈ xs, I64 x) (w : World) : Calls Try.prog 10 #[.agg (xs.map (Value.int .i64)).toArray] w fun e w' => e = .returned (.bool true) ∧ Below w.heap.size w w' := by
  match xs, hl with
  | [a, b, c, d], _ =>
    show Calls Try.prog 10 #[.agg #[.int .i64 a, .int .i64 b, .int .i64 c, .int .i64 d]] w fun e w' => e = .returned (.bool true) ∧ Below w.heap.size w w'
    by_cases h : ok4 a b c d
    · obtain ⟨R, hR, rfl, rfl, rfl, rfl⟩ := ok4_nat h
      exact flat_yes R hR w
    · exact flat_no a b c d h w
end Go.Proofs.Ytoalihdempcbjaa
