/- What view.Tiles answers: the list of tiles row by row, and by the picks. -/
import Derived.Test.YtoalihdempcbjaaGrid
import Derived.Test.YtoalihdempcbjaaTiles
namespace Go.Proofs.Ytoalihdempcbjaa
open Go.RowKit
set_option maxRecDepth 100000
set_option linter.unusedSimpArgs false
set_option linter.unusedVariables false
def GyRel (B : Nat) (w0 : World) (W H : Int) (k : Nat) (v y : Value) (wr : World) : Prop :=
  ∃ j : Nat, ∃ Y : Int, 4 * (j : Int) = Y ∧ y = .int .i64 Y ∧ k + j = nT H ∧ Tls wr B v (j * nT W) (gridG W H (nT W) j) ∧ Below B w0 wr
def GxRel (B : Nat) (w0 : World) (W H Y : Int) (j : Nat) (k : Nat) (v x : Value) (wr : World) : Prop :=
  ∃ i : Nat, ∃ X : Int, 4 * (i : Int) = X ∧ x = .int .i64 X ∧ k + i = nT W ∧ Tls wr B v (j * nT W + i) (gridG W H (nT W) j ++ rowG W H Y i) ∧ Below B w0 wr
def GpRel (B : Nat) (w0 : World) (N : Nat) (G ps : List Int) (k : Nat) (lf ot i : Value) (wr : World) : Prop :=
  ∃ (j nl no g cap : Nat) (zl zo : List Int), picked (G, []) (ps.take j) = (zl, zo) ∧ k + j = ps.length ∧ i = .int .i64 (j : Int) ∧ lf = .slice (some ⟨g, 0, none⟩) nl cap ∧ Tls wr B lf nl zl ∧ Tls wr B ot no zo ∧ ot.ownBlock ≠ some g ∧ nl + no = N ∧ (nl = 0 → 0 < j) ∧ Below B w0 wr
theorem keep_call {w v1 : World} {B n g : Nat} {v : Value} {zs : List Int} {o : Obj} (h : Tls w B v n zs) (hg : (w.alloc o).grownBy v1 (some g)) (hne : v.ownBlock ≠ some g) : Tls v1 B v n zs := tls_kept (tls_alloc h o) hg (.inr hne)
theorem own_far {v v' : Value} {g s : Nat} (h : v.ownBlock ≠ some g) (k : v'.ownBlock = v.ownBlock ∨ v'.ownBlock = some s) (hs : g < s) : v'.ownBlock ≠ some g := by
  rcases k with e | e
  · rw [e]; exact h
  · rw [e]; intro h; have := Option.some.inj h; omega
theorem nT_bound {w : Int} (h1 : 1 ≤ w) (h2 : w ≤ 64) : 0 < nT w ∧ nT w ≤ 16 ∧ w ≤ 4 * (nT w : Int) ∧ 4 * (nT w : Int) ≤ w + 3 := by
  unfold nT; omega
theorem mul_sm {j a b : Nat} (ha : a ≤ 16) (hb : b ≤ 16) (h : j ≤ a) : j * b ≤ 256 := Nat.le_trans (Nat.mul_le_mul (Nat.le_trans h ha) hb) (by decide)
set_option maxHeartbeats 8000000 in
theorem tiles_any (W H : Int) (ps : List Int) (n c : Nat) (p : Option Addr) (hW1 : 1 ≤ W) (hW2 : W ≤ 64) (hH1 : 1 ≤ H) (hH2 : H ≤ 64) (w : World) (hn : ps.length = n) (hn2 : n ≤ 2000) (hp : ∀ j, j < n → ∃ b off, p = some ⟨b, off, none⟩ ∧ b < w.heap.size ∧ w.cell? ⟨b, off + j, none⟩ = some (.int .i64 (ps.getD j 0))) :
    Calls Try.prog 16 #[.int .i64 W, .int .i64 H, .slice p n c] w fun e w' => ∃ v, e = .returned (.tuple #[v, .bool true]) ∧ Tls w' w.heap.size v (nT H * nT W) (tilesL W H ps) ∧ Below w.heap.size w w' := by
  obtain ⟨bw0, bw1, bw2, bw3⟩ := nT_bound hW1 hW2
  obtain ⟨bh0, bh1, bh2, bh3⟩ := nT_bound hH1 hH2
  have HP := Lib.hid hp
  clear hp
  go_enter Try.func16, Try.ntmps16
  go_wp2_with (go_at_call 26; ((with_reducible refine (among2 1 64 W H true (by rw [am2_iff]; omega) _ _ (by (repeat (first | (with_reducible assumption) | (focus ((with_reducible refine new_at ?_ _ _); (repeat (first | (with_reducible rfl) | (with_reducible refine sz1 ?_))); done)) | (with_reducible refine blk_alloc (by simp) _ ?_) | (with_reducible refine blk_drew ?_))))).mono ?_); rintro e w1 ⟨rfl, hb1⟩; have HB1 := Lib.hid ((by (repeat' (first | (with_reducible exact Below.refl _ _) | (with_reducible refine bstep (by with_reducible assumption) ?_) | (with_reducible refine Below.alloc ?_ ?_ _) | (with_reducible refine Below.drew ?_) | (with_reducible refine below_drewN ?_ _) | (with_reducible refine Below.setCell ?_ ?_ _) | go_size))) : Below w.heap.size w w1)))
  go_loopg [8, 10] (nT H) (fun k v y wr => GyRel w.heap.size w W H k v y wr)
  case atStart => exact ⟨0, 0, rfl, rfl, rfl, by rw [Nat.zero_mul]; exact tls_nil _ _ _ rfl, HB1.out⟩
  case round =>
    obtain ⟨j, Y, hY, rfl, hk, own, hB⟩ := hrel
    have HB := Lib.hid hB
    have HY := Lib.hid hY
    have OW := Lib.hid own
    clear hB HB1 own hY
    by_cases hlt : Y < H
    · have wY : IntKind.i64.wrap (Y + 4) = Y + 4 := IntWalk.i64_in _ (by have := HY.out; omega)
      have wH : IntKind.i64.wrap (H - Y) = H - Y := IntWalk.i64_in _ (by have := HY.out; omega)
      have hj : j < nT H := by have := HY.out; omega
      go_wp2_with fail
      go_loopg [8, 11] (nT W) (fun k v x wr => GxRel w.heap.size w W H Y j k v x wr)
      case atStart => exact ⟨0, 0, rfl, rfl, rfl, by rw [Nat.add_zero]; simpa [rowG] using OW.out, HB.out⟩
      case round =>
        obtain ⟨i, X, hX, rfl, hk2, own2, hB2⟩ := hrel
        have HX := Lib.hid hX
        have HBX := Lib.hid hB2
        have OWN := Lib.hid own2
        have sz : w.heap.size ≤ wr.heap.size := hB2.size
        clear hB2 own2 hX
        by_cases hlt2 : X < W
        · have wX : IntKind.i64.wrap (X + 4) = X + 4 := IntWalk.i64_in _ (by have := HX.out; omega)
          have wW : IntKind.i64.wrap (W - X) = W - X := IntWalk.i64_in _ (by have := HX.out; omega)
          have hi : i < nT W := by have := HX.out; omega
          have hsm := mul_sm bh1 bw1 (Nat.le_of_lt hj)
          go_wp2_with (at_builtin; with_reducible change wpList _ _ _ (Oper.mk _ (Op.call ⟨Callee.builtin Builtin.append, _, _⟩) _ _ _ _ :: _) _ _; refine wpList_tl _ rfl _ _ rfl w.heap.size _ _ _ rfl (tls_alloc OWN.out _) ⟨wr.heap.size, 0, none⟩ 1 1 [X, Y, mn 4 (W - X), mn 4 (H - Y)] rfl rfl (cells4 (new_at rfl _ _)) (by omega) (by rw [World.size_alloc]; omega) (fun v' w5 k1 k2 k3 => ?_); have HB5 := Below.grown (HBX.out.alloc sz _) k2 (by rw [World.size_alloc]; omega) (tls_ge OWN.out))
          go_roundg (nT W - (i + 1))
          case measure => omega
          case rel => exact ⟨i + 1, X + 4, by have := HX.out; omega, by simp [wX], by omega, by rw [rowG_succ, ← List.append_assoc, HX.out]; exact k1, HB5⟩
        · go_wp2_with fail
          go_roundg (nT H - (j + 1))
          case measure => omega
          case rel => exact ⟨j + 1, Y + 4, by have := HY.out; omega, by simp [wY], by omega, by have hi : i = nT W := (by have := HX.out; omega); have o := OWN.out; rw [hi] at o; rw [gridG_succ, Nat.add_mul, Nat.one_mul, HY.out]; exact o, HBX.out⟩
    · obtain hjn : j = nT H := by have := HY.out; omega
      have hpos : 0 < j * nT W := by rw [hjn]; exact Nat.mul_pos bh0 bw0
      have hsm : nT H * nT W ≤ 256 := mul_sm bh1 bw1 (Nat.le_refl _)
      obtain ⟨g1, cap1, rfl, hg1, hl1⟩ := tls_form OW.out hpos
      go_wp2_with fail
      go_loopg [8, 9, 47] n (fun k lf ot i wr => GpRel w.heap.size w (nT H * nT W) (gridF W H) ps k lf ot i wr)
      case atStart =>
        have o := OW.out
        rw [hjn] at o
        exact ⟨0, nT H * nT W, 0, g1, cap1, gridF W H, [], rfl, by rw [hn]; rfl, rfl, by rw [← hjn], by rw [gridF, ← hjn]; rw [← hjn] at o; exact o, tls_nil _ _ _ rfl, by simp [Value.ownBlock], rfl, fun h => absurd h (by rw [← hjn]; omega), HB.out⟩
      case round =>
        obtain ⟨j2, nl, no, g, cap, zl, zo, hpk, hk2, rfl, rfl, ownl, owno, hne, hN, hnj, hB2⟩ := hrel
        obtain ⟨hgl, hgB, hnc, hcm, hzl, hcell, hfro⟩ := tls_cell ownl
        have LC := Lib.hid hcell
        have OL := Lib.hid ownl
        have OT := Lib.hid owno
        have HBX := Lib.hid hB2
        have NE := Lib.hid hne
        have PK := Lib.hid hpk
        have sz : w.heap.size ≤ wr.heap.size := hB2.size
        have hzo := tls_len owno
        clear hcell hfro ownl owno hB2 hne hpk HB OW
        by_cases hj : j2 < n
        · obtain ⟨b, off, rfl, hbl, hc⟩ := HP.out j2 hj
          have cp := (HBX.out.cell (p := ⟨b, off + j2, none⟩) hbl).trans hc
          have hj0 : (0 : Int) ≤ (j2 : Int) := by omega
          have hj1 : (j2 : Int) < (n : Int) := by omega
          clear hc
          obtain ⟨q, hq⟩ : ∃ q, ps.getD j2 0 = q := ⟨_, rfl⟩
          rw [hq] at cp
          by_cases hz : nl = 0
          · subst hz
            go_wp2_with (at_builtin; with_reducible change wpList _ _ _ (Oper.mk _ (Op.call ⟨Callee.builtin Builtin.append, _, _⟩) _ _ _ _ :: _) _ _; refine wpList_tl _ rfl _ _ rfl w.heap.size u9 _ _ rfl OT.out ⟨g, 0, none⟩ _ cap zl rfl (tls_len OL.out) (fun o ho => by rw [add_none, Nat.zero_add]; exact LC.out o ho) (by omega) sz (fun v' w5 k1 k2 k3 => ?_); have HB5 := Below.grown HBX.out k2 sz (tls_ge OT.out))
            have hno : 0 < no := by
              have := Nat.mul_pos bh0 bw0; omega
            go_returns
            refine ⟨v', by simp, ?_, HB5⟩
            have e0 : picked (gridF W H, []) ps = (zl, zo) := by
              rw [← PK.out]; exact picked_take _ ps j2 (by rw [PK.out]; show zl.length / 4 = 0; rw [tls_len OL.out])
            rw [tilesL, e0, show nT H * nT W = no + 0 by omega]
            exact k1
          · have hpos2 : 0 < nl := Nat.pos_of_ne_zero hz
            have z0 : ¬ ((nl : Int) = 0) := by omega
            have z1 : ((nl : Int) == 0) = false := beq_eq_false_iff_ne.mpr z0
            have tb := tmod_bounds q nl hpos2
            have pk := pickK_lt q nl hpos2
            obtain ⟨k, hk⟩ : ∃ k, pickK q nl = k := ⟨_, rfl⟩
            have hk' := hk
            unfold pickK at hk'
            rw [hk] at pk
            have hkm : k ≤ nl - 1 := by omega
            have HNM := Lib.hid (show nl = nl - 1 + 1 by omega)
            have hgw : g ≠ wr.heap.size := by omega
            have OTL := Lib.hid (fun b e => (tls_lt OT.out b e).2)
            obtain ⟨X0, X1, X2, X3, hX4⟩ : ∃ X0 X1 X2 X3, [zl.getD (k * 4) 0, zl.getD (k * 4 + 1) 0, zl.getD (k * 4 + 2) 0, zl.getD (k * 4 + 3) 0] = [X0, X1, X2, X3] := ⟨_, _, _, _, rfl⟩
            have PN : Hid (picked (gridF W H, []) (ps.take (j2 + 1)) = (cutK zl k, zo ++ [X0, X1, X2, X3])) := by
              refine Lib.hid ?_
              rw [picked_next _ _ _ (by omega), PK.out, hq, stepT]
              have e4 : zl.length / 4 = nl := by rw [hzl]; omega
              show (if zl.length / 4 = 0 then _ else _) = _
              rw [e4, if_neg hz, hk, ← hX4]; rfl
            have wJ : IntKind.i64.wrap ((j2 : Int) + 1) = (j2 : Int) + 1 := IntWalk.i64_in _ (by omega)
            obtain ⟨T, hT⟩ : ∃ T, q.tmod (nl : Int) = T := ⟨_, rfl⟩
            rw [hT] at tb hk'
            have wT : IntKind.i64.wrap T = T := IntWalk.i64_in _ (by omega)
            have HX4 := Lib.hid hX4
            clear hX4 hq
            by_cases hT0 : T < 0
            · have wN : IntKind.i64.wrap (T + (nl : Int)) = (k : Int) := by rw [if_pos hT0] at hk'; rw [IntWalk.i64_in _ (by omega)]; omega
              clear hk' hk
              go_wp2_with fail
              (with_reducible refine (taken_row4 X0 X1 X2 X3 HX4.out hkm HNM.out _ (tls_alloc OL.out _) (by rw [World.size_alloc]; omega)).mono ?_)
              rintro e v1 ⟨rfl, T1', G1'⟩
              have T1 := Lib.hid T1'
              have G1 := Lib.hid G1'
              clear T1' G1'
              have ZD : ∀ o, v1.cell? ⟨wr.heap.size, o, none⟩ = (#[.int .i64 0, .int .i64 0, .int .i64 0, .int .i64 0] : Array Value)[o]? := (fun o => (World.grownBy.cell_far G1.out ⟨wr.heap.size, o, none⟩ (by rw [World.size_alloc]; exact Nat.lt_succ_self _) (by simp [Ne.symm hgw])).trans (new_at rfl _ _ o))
              have FD : ∀ o, v1.frozen? ⟨wr.heap.size, o, none⟩ = false := (fun o => (World.grownBy.frozen_far G1.out ⟨wr.heap.size, o, none⟩ (by rw [World.size_alloc]; exact Nat.lt_succ_self _) (by simp [Ne.symm hgw])).trans (fro_new rfl _ _ o))
              have LD : wr.heap.size < v1.heap.size := blk_lt (by simp) ZD
              have HV := Lib.hid (Below.grown (HBX.out.alloc sz _) G1.out (by rw [World.size_alloc]; omega) (fun k e => by cases e; exact hgB))
              have OT1 := Lib.hid (keep_call OT.out G1.out NE.out)
              have NE2 := Lib.hid (show (Value.slice (some ⟨g, 0, none⟩) (nl - 1) cap).ownBlock ≠ u9.ownBlock from fun e => NE.out e.symm)
              have NW := Lib.hid (show u9.ownBlock ≠ some wr.heap.size from fun e => Nat.lt_irrefl _ (OTL.out _ e))
              have NG := Lib.hid (show (Value.slice (some ⟨g, 0, none⟩) (nl - 1) cap).ownBlock ≠ some wr.heap.size by simp [Value.ownBlock, hgw])
              go_wp2_with (at_builtin; with_reducible change wpList _ _ _ (Oper.mk _ (Op.call ⟨Callee.builtin Builtin.append, _, _⟩) _ _ _ _ :: _) _ _; refine wpList_tl _ rfl _ _ rfl w.heap.size u9 _ _ rfl (tls_alloc (tls_kept OT1.out (gb_set4 v1 wr.heap.size) (.inr NW.out)) _) ⟨v1.heap.size, 0, none⟩ 1 1 [X0, X1, X2, X3] rfl rfl (cells4 (new_at (by simp only [World.size_setCell]) _ _)) (by omega) (by simp only [World.size_alloc, World.size_setCell]; omega) (fun v' w5 k1 k2 k3 => ?_); have HB5 := Below.grown (Below.alloc (Below.setCell (Below.setCell (Below.setCell (Below.setCell HV.out sz _) sz _) sz _) sz _) (by simp only [World.size_setCell]; omega) _) k2 (by simp only [World.size_alloc, World.size_setCell]; omega) (tls_ge OT.out); have T5 := tls_kept (tls_alloc (tls_kept T1.out (gb_set4 v1 wr.heap.size) (.inr NG.out)) _) k2 (.inr NE2.out))
              have NF := Lib.hid (own_far NE.out k3 (by simp only [World.size_alloc, World.size_setCell]; omega))
              go_roundg (n - (j2 + 1))
              case measure => omega
              case rel => exact ⟨j2 + 1, nl - 1, no + 1, g, cap, _, _, PN.out, by omega, by simp [wJ], rfl, T5, k1, NF.out, by omega, fun _ => Nat.succ_pos _, HB5⟩
            · obtain rfl : T = (k : Int) := by rw [if_neg hT0] at hk'; omega
              clear hk' hk
              go_wp2_with fail
              (with_reducible refine (taken_row4 X0 X1 X2 X3 HX4.out hkm HNM.out _ (tls_alloc OL.out _) (by rw [World.size_alloc]; omega)).mono ?_)
              rintro e v1 ⟨rfl, T1', G1'⟩
              have T1 := Lib.hid T1'
              have G1 := Lib.hid G1'
              clear T1' G1'
              have ZD : ∀ o, v1.cell? ⟨wr.heap.size, o, none⟩ = (#[.int .i64 0, .int .i64 0, .int .i64 0, .int .i64 0] : Array Value)[o]? := (fun o => (World.grownBy.cell_far G1.out ⟨wr.heap.size, o, none⟩ (by rw [World.size_alloc]; exact Nat.lt_succ_self _) (by simp [Ne.symm hgw])).trans (new_at rfl _ _ o))
              have FD : ∀ o, v1.frozen? ⟨wr.heap.size, o, none⟩ = false := (fun o => (World.grownBy.frozen_far G1.out ⟨wr.heap.size, o, none⟩ (by rw [World.size_alloc]; exact Nat.lt_succ_self _) (by simp [Ne.symm hgw])).trans (fro_new rfl _ _ o))
              have LD : wr.heap.size < v1.heap.size := blk_lt (by simp) ZD
              have HV := Lib.hid (Below.grown (HBX.out.alloc sz _) G1.out (by rw [World.size_alloc]; omega) (fun k e => by cases e; exact hgB))
              have OT1 := Lib.hid (keep_call OT.out G1.out NE.out)
              have NE2 := Lib.hid (show (Value.slice (some ⟨g, 0, none⟩) (nl - 1) cap).ownBlock ≠ u9.ownBlock from fun e => NE.out e.symm)
              have NW := Lib.hid (show u9.ownBlock ≠ some wr.heap.size from fun e => Nat.lt_irrefl _ (OTL.out _ e))
              have NG := Lib.hid (show (Value.slice (some ⟨g, 0, none⟩) (nl - 1) cap).ownBlock ≠ some wr.heap.size by simp [Value.ownBlock, hgw])
              go_wp2_with (at_builtin; with_reducible change wpList _ _ _ (Oper.mk _ (Op.call ⟨Callee.builtin Builtin.append, _, _⟩) _ _ _ _ :: _) _ _; refine wpList_tl _ rfl _ _ rfl w.heap.size u9 _ _ rfl (tls_alloc (tls_kept OT1.out (gb_set4 v1 wr.heap.size) (.inr NW.out)) _) ⟨v1.heap.size, 0, none⟩ 1 1 [X0, X1, X2, X3] rfl rfl (cells4 (new_at (by simp only [World.size_setCell]) _ _)) (by omega) (by simp only [World.size_alloc, World.size_setCell]; omega) (fun v' w5 k1 k2 k3 => ?_); have HB5 := Below.grown (Below.alloc (Below.setCell (Below.setCell (Below.setCell (Below.setCell HV.out sz _) sz _) sz _) sz _) (by simp only [World.size_setCell]; omega) _) k2 (by simp only [World.size_alloc, World.size_setCell]; omega) (tls_ge OT.out); have T5 := tls_kept (tls_alloc (tls_kept T1.out (gb_set4 v1 wr.heap.size) (.inr NG.out)) _) k2 (.inr NE2.out))
              have NF := Lib.hid (own_far NE.out k3 (by simp only [World.size_alloc, World.size_setCell]; omega))
              go_roundg (n - (j2 + 1))
              case measure => omega
              case rel => exact ⟨j2 + 1, nl - 1, no + 1, g, cap, _, _, PN.out, by omega, by simp [wJ], rfl, T5, k1, NF.out, by omega, fun _ => Nat.succ_pos _, HB5⟩
        · obtain rfl : j2 = n := by omega
          have hj1 : ¬ ((j2 : Int) < (j2 : Int)) := by omega
          go_wp2_with (at_builtin; with_reducible change wpList _ _ _ (Oper.mk _ (Op.call ⟨Callee.builtin Builtin.append, _, _⟩) _ _ _ _ :: _) _ _; refine wpList_tl _ rfl _ _ rfl w.heap.size u9 _ _ rfl OT.out ⟨g, 0, none⟩ _ cap zl rfl (tls_len OL.out) (fun o ho => by rw [add_none, Nat.zero_add]; exact LC.out o ho) (by omega) sz (fun v' w5 k1 k2 k3 => ?_); have HB5 := Below.grown HBX.out k2 sz (tls_ge OT.out))
          go_returns
          refine ⟨v', by simp, ?_, HB5⟩
          have e0 : picked (gridF W H, []) ps = (zl, zo) := by
            rw [← PK.out, ← hn, List.take_length]
          rw [tilesL, e0, ← hN, Nat.add_comm nl no]
          exact k1
end Go.Proofs.Ytoalihdempcbjaa
