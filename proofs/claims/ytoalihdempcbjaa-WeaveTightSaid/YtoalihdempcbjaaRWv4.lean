/- What relievoref13.Weave answers where all rates are within bounds: the same spots and triangles as weave.Weave. -/
import Derived.Test.YtoalihdempcbjaaRWv3
import Derived.BigGuardPart
namespace Go.Proofs.Ytoalihdempcbjaa
open Go.RowKit
set_option maxRecDepth 1000000
set_option linter.unusedSimpArgs false
set_option linter.unusedVariables false
def mxp (R : Rt) : Nat → Nat
  | 0 => 0
  | k + 1 => max (mxp R k) (R.r k)
theorem mxp_4 (R : Rt) : mxp R 4 = R.m := by simp only [mxp, Rt.r, Rt.m]; omega
theorem mxp_le (R : Rt) (hR : R.ok) : ∀ k, mxp R k ≤ 16
  | 0 => by simp [mxp]
  | k + 1 => by have := mxp_le R hR k; have := Rt.ok_r hR k; rw [mxp]; omega
theorem mxp_next (R : Rt) (j : Nat) : mx (mxp R j : Int) (R.r j : Int) = (mxp R (j + 1) : Int) := by rw [mxp]; unfold mx; omega
theorem xs4_R (R : Rt) (j : Nat) (hj : j < 4) : xs4 (R.r0 : Int) (R.r1 : Int) (R.r2 : Int) (R.r3 : Int) j = (R.r j : Int) := by
  match j, hj with
  | 0, _ => rfl
  | 1, _ => rfl
  | 2, _ => rfl
  | 3, _ => rfl
def RyRel (R : Rt) (B : Nat) (w : World) (k : Nat) (m i : Value) (wr : World) : Prop := ∃ j : Nat, j ≤ 4 ∧ k = 4 - j ∧ i = .int .i64 (j : Int) ∧ (∃ M : Nat, m = .int .i64 (M : Int) ∧ mxp R j = M) ∧ Below B w wr
/-- The list of spots, as far as it is laid: the first o j of them. -/
def LsRel (R : Rt) (o : Nat → Nat) (lo hi B : Nat) (w : World) (k : Nat) (v i : Value) (wr : World) : Prop := ∃ j : Nat, lo ≤ j ∧ j ≤ hi ∧ k = hi - j ∧ i = .int .i64 (j : Int) ∧ Sps wr B v (o j) ((spotsN R).take (o j)) ∧ Below B w wr
def TmRel (R : Rt) (f : Nat → List T3) (hi B : Nat) (w : World) (k : Nat) (v i : Value) (wr : World) : Prop := ∃ j : Nat, 1 ≤ j ∧ j ≤ hi ∧ k = hi - j ∧ i = .int .i64 (j : Int) ∧ Trs wr B v (f j).length (f j) ∧ Below B w wr
def T0Rel (R : Rt) (f : Nat → List T3) (hi B : Nat) (w : World) (k : Nat) (v i : Value) (wr : World) : Prop := ∃ j : Nat, j ≤ hi ∧ k = hi - j ∧ i = .int .i64 (j : Int) ∧ Trs wr B v (f j).length (f j) ∧ Below B w wr
def TsRel (R : Rt) (ts : List T3) (kk r m B : Nat) (w : World) (g : Nat) (v vi vt : Value) (wr : World) : Prop :=
  ∃ (i t : Nat) (d : List T3), i ≤ r ∧ 1 ≤ t ∧ t ≤ m - 1 ∧ g = (r - i) + (m - 1 - t) ∧ vi = .int .i64 (i : Int) ∧ vt = .int .i64 (t : Int) ∧ Trs wr B v (ts ++ d).length (ts ++ d) ∧ d ++ stripF R kk g i t = stripN R kk ∧ Below B w wr
theorem news3 (W : World) (n : Nat) (hn : W.heap.size = n) (t : T3) (ty : TypeId) (x y z : Int) (hx : (t.1 : Int) = x) (hy : (t.2.1 : Int) = y) (hz : (t.2.2 : Int) = z) : ∀ j u, (c3 t)[j]? = some u → (W.alloc (.cells #[.int .i64 x, .int .i64 y, .int .i64 z] ty)).cell? ((⟨n, 0, none⟩ : Addr).add j) = some u := by
  subst hx hy hz
  exact news_alloc W n hn _ ty
theorem sps_new {w : World} {B : Nat} (hb : B ≤ w.heap.size) : Sps (w.alloc (.cells #[] 50)) B (.slice (some ⟨w.heap.size, 0, none⟩) 0 0) 0 [] := World.ownsRow_made w #[] 0 hb (by decide) rfl
theorem trs_new {w : World} {B : Nat} (hb : B ≤ w.heap.size) : Trs (w.alloc (.cells #[] 51)) B (.slice (some ⟨w.heap.size, 0, none⟩) 0 0) 0 [] := World.ownsRow_made w #[] 0 hb (by decide) rfl
theorem row_ge {w : World} {B n sz : Nat} {e : TypeId} {v : Value} {xs : List Value} (h : w.ownsRow B e sz v n xs) : ∀ k, v.ownBlock = some k → B ≤ k := fun k e => (World.ownsRow.lt h k e).1
theorem rinner_n (x y : Nat) (X Y : Int) (hx : (x : Int) = X) (hy : (y : Int) = Y) (w : World) : Calls Try.prog 39 #[.int .i64 X, .int .i64 Y] w fun e w' => e = .returned (V3n (3, x, y)) ∧ Below w.heap.size w w' := by
  subst hx hy; exact rinner_any _ _ w
theorem number_n (R : Rt) (hR : R.ok) (p : Option Addr) (n c B : Nat) (hn : (spotsN R).length = n) (wk : World) (h : Sps wk B (.slice p n c) n (spotsN R)) (s : T3) (hs : vs R s) (w : World) (hb : Below wk.heap.size wk w) :
    Calls Try.prog 40 #[.slice p n c, V3n s] w fun e w' => e = .returned (.int .i64 (nm R s : Int)) ∧ Below w.heap.size w w' :=
  number_any R hR s hs p n c B hn w (row_below h hb)
theorem router_n (R : Rt) (k i r : Nat) (I : Int) (hI : (i : Int) = I) (hr : R.r k = r) (hk : k < 4) (w : World) : Calls Try.prog 41 #[.int .i64 (k : Int), .int .i64 I, .int .i64 (r : Int)] w fun e w' => e = .returned (V3n (ouS R k i)) ∧ Below w.heap.size w w' := by
  subst hI; exact router_any R k i r hr hk w
theorem rbeside_n (R : Rt) (k t m : Nat) (T : Int) (hT : (t : Int) = T) (hm : R.m = m) (hm2 : m ≤ 16) (hk : k < 4) (ht : 1 ≤ t ∧ t < m) (w : World) : Calls Try.prog 42 #[.int .i64 (k : Int), .int .i64 T, .int .i64 (m : Int)] w fun e w' => e = .returned (V3n (besS R.m k t)) ∧ Below w.heap.size w w' := by
  subst hT; exact rbeside_any R k t m hm hm2 hk ht w
theorem take_next (R : Rt) (hR : R.ok) (s : T3) (hs : vs R s) (n : Nat) (hn : nm R s = n) : (spotsN R).take (n + 1) = (spotsN R).take n ++ [s] := by rw [← hn]; exact spots_next R hR s hs
theorem trs_two {w : World} {B : Nat} (hb : B ≤ w.heap.size) : Trs (w.alloc (.cells #[.int .i64 0, .int .i64 1, .int .i64 2, .int .i64 0, .int .i64 2, .int .i64 3] 51)) B (.slice (some ⟨w.heap.size, 0, none⟩) 2 2) 2 [(0, 1, 2), (0, 2, 3)] :=
  ⟨by simp [fl3, c3], .inr ⟨w.heap.size, 2, _, rfl, hb, heap_alloc_lastI w _, Nat.le_refl _, by decide, rfl, rfl⟩⟩
set_option maxHeartbeats 16000000 in
theorem rweave_yes (R : Rt) (hR : R.ok) (w : World) :
    Calls Try.prog 23 #[.agg #[.int .i64 (R.r0 : Int), .int .i64 (R.r1 : Int), .int .i64 (R.r2 : Int), .int .i64 (R.r3 : Int)]] w (WvOut R w) := by
  have hm := Rt.ok_m hR
  obtain ⟨m, hm'⟩ : ∃ m, R.m = m := ⟨_, rfl⟩
  rw [hm'] at hm
  have HM := Lib.hid hm'
  have HR := Lib.hid hR
  have TN := Lib.hid (take_next R hR)
  have SL2 := Lib.hid (spots_le R hR)
  have OE := Lib.hid (offE_le R hR)
  clear hm' hR
  go_enter Try.func23, Try.ntmps23
  go_wp2_with fail
  go_loopg [5, 6] 4 (fun k m i wr => RyRel R (w.heap.size + 1) (w.alloc (.cells #[.int .i64 (R.r0 : Int), .int .i64 (R.r1 : Int), .int .i64 (R.r2 : Int), .int .i64 (R.r3 : Int)] 44)) k m i wr)
  case atStart => exact ⟨0, by omega, rfl, rfl, ⟨0, rfl, rfl⟩, Below.refl _ _⟩
  case round =>
    obtain ⟨j, hj, rfl, rfl, ⟨M, rfl, hM⟩, hb⟩ := hrel
    have HB := Lib.hid hb
    clear hb
    by_cases hlt : j < 4
    · have K0 := cell4 (new_at (W := w) rfl (#[.int .i64 (R.r0 : Int), .int .i64 (R.r1 : Int), .int .i64 (R.r2 : Int), .int .i64 (R.r3 : Int)] : Array Value) 44) j (by omega)
      have cj : wr.cell? ⟨w.heap.size, j, none⟩ = some (.int .i64 (R.r j : Int)) := (HB.out.cell (p := ⟨w.heap.size, j, none⟩) (Nat.lt_succ_self _)).trans (K0.trans (by rw [xs4_R R j hlt]))
      have hj0 : (0 : Int) ≤ (j : Int) := by omega
      have hj1 : (j : Int) < 4 := by omega
      have hx := Rt.ok_r HR.out j
      have hmx := mxp_next R j
      obtain ⟨M', hM'⟩ : ∃ M', mxp R (j + 1) = M' := ⟨_, rfl⟩
      rw [hM, hM'] at hmx
      have HM' := Lib.hid hM'
      generalize R.r j = x at cj hx hmx
      have x1 : ¬ (x : Int) < 1 := by omega
      have x2 : ¬ (16 : Int) < (x : Int) := by omega
      clear K0 hM' hM
      go_wp2_with fail
      go_roundg (4 - (j + 1))
      case measure => omega
      case rel => exact ⟨j + 1, by omega, rfl, by simp, ⟨M', rfl, HM'.out⟩, HB.out⟩
    · obtain rfl : j = 4 := by omega
      obtain rfl : M = m := by rw [← hM, mxp_4, HM.out]
      obtain ⟨w1, rfl⟩ : ∃ w1 : World, w1 = wr := ⟨_, rfl⟩
      have S1 : w.heap.size + 1 ≤ w1.heap.size := by have := HB.out.size; rw [World.size_alloc] at this; exact this
      have RC := Lib.hid (show ∀ j, j < 4 → ∀ W, Below (w.heap.size + 1) w1 W → W.cell? ⟨w.heap.size, j, none⟩ = some (.int .i64 (R.r j : Int)) from fun j hj W hW => (hW.cell (p := ⟨w.heap.size, j, none⟩) (Nat.lt_succ_self _)).trans ((HB.out.cell (p := ⟨w.heap.size, j, none⟩) (Nat.lt_succ_self _)).trans ((cell4 (new_at (W := w) rfl (#[.int .i64 (R.r0 : Int), .int .i64 (R.r1 : Int), .int .i64 (R.r2 : Int), .int .i64 (R.r3 : Int)] : Array Value) 44) j hj).trans (by rw [xs4_R R j hj]))))
      have HW1 := Lib.hid (show Below w.heap.size w w1 from ((Below.refl _ _).alloc (Nat.le_refl _) _).trans (HB.out.mono (Nat.le_succ _)))
      clear hM HB
      go_wp2_with fail
      go_loopg [7, 8] 4 (fun k v i wr => LsRel R (fun j => j) 0 4 (w.heap.size + 1) w1 k v i wr)
      case atStart => exact ⟨0, by omega, by omega, rfl, rfl, sps_new S1, (Below.refl _ _).alloc S1 _⟩
      case round =>
        obtain ⟨j, _, hj, rfl, rfl, own, hb⟩ := hrel
        dsimp only at own
        have OW := Lib.hid own
        have HB := Lib.hid hb
        have sz : w.heap.size + 1 ≤ wr.heap.size := Nat.le_trans S1 hb.size
        clear own hb
        by_cases hlt : j < 4
        · have hj1 : (j : Int) < 4 := by omega
          go_wp2_with (at_builtin; (with_reducible change wpList _ _ _ (Oper.mk _ (Op.call ⟨Callee.builtin Builtin.append, _, _⟩) _ _ _ _ :: _) _ _); refine wpList_sp _ rfl _ _ rfl (w.heap.size + 1) _ _ _ rfl (World.ownsRow.alloc OW.out _) ⟨wr.heap.size, 0, none⟩ 1 (1, j, 0) rfl (news3 wr _ rfl (1, j, 0) _ 1 (j : Int) 0 rfl rfl rfl) (by omega) (by rw [World.size_alloc]; omega) (fun v' w5 k1 k2 => ?_); have HB5 := Lib.hid (Below.grown (HB.out.alloc sz _) k2 (by rw [World.size_alloc]; omega) (row_ge OW.out)); have K1 := Lib.hid k1; clear k1 k2)
          go_roundg (4 - (j + 1))
          case measure => omega
          case rel => exact ⟨j + 1, by omega, by omega, rfl, by simp, by have h := K1.out; rw [TN.out (1, j, 0) (vs_corn hlt) j (nm_corn R j)]; exact h, HB5.out⟩
        · obtain rfl : j = 4 := by omega
          go_wp2_with fail
          go_loopg [7, 9] 4 (fun k v i wr => LsRel R (offE R) 0 4 (w.heap.size + 1) w1 k v i wr)
          case atStart => exact ⟨0, by omega, by omega, rfl, rfl, OW.out, HB.out⟩
          case round =>
            obtain ⟨j, _, hj, rfl, rfl, own, hb⟩ := hrel
            have OW := Lib.hid own
            have HB := Lib.hid hb
            clear own hb
            by_cases hlt2 : j < 4
            · have hj0 : (0 : Int) ≤ (j : Int) := by omega
              have hj1 : (j : Int) < 4 := by omega
              have hr := Rt.ok_r HR.out j
              obtain ⟨r, hr'⟩ : ∃ r, R.r j = r := ⟨_, rfl⟩
              rw [hr'] at hr
              have HR' := Lib.hid hr'
              clear hr'
              go_wp2_with fail
              go_loopg [7, 10] (r - 1) (fun k v i wr => LsRel R (fun i => offE R j + (i - 1)) 1 r (w.heap.size + 1) w1 k v i wr)
              case atStart => exact ⟨1, by omega, by omega, rfl, rfl, by simpa using OW.out, HB.out⟩
              case round =>
                obtain ⟨i, hi1, hi2, rfl, rfl, own, hb⟩ := hrel
                dsimp only at own
                have cj := RC.out j hlt2 _ hb
                rw [HR'.out] at cj
                have OW := Lib.hid own
                have HB := Lib.hid hb
                have sz : w.heap.size + 1 ≤ wr.heap.size := Nat.le_trans S1 hb.size
                clear own hb
                by_cases hlt3 : i < r
                · have hi3 : (i : Int) < (r : Int) := by omega
                  have hv : Hid (vs R (2, j, i)) := Lib.hid (vs_edge hlt2 ⟨hi1, by rw [HR'.out]; exact hlt3⟩)
                  go_wp2_with (at_builtin; (with_reducible change wpList _ _ _ (Oper.mk _ (Op.call ⟨Callee.builtin Builtin.append, _, _⟩) _ _ _ _ :: _) _ _); refine wpList_sp _ rfl _ _ rfl (w.heap.size + 1) _ _ _ rfl (World.ownsRow.alloc OW.out _) ⟨wr.heap.size, 0, none⟩ 1 (2, j, i) rfl (news3 wr _ rfl (2, j, i) _ 2 (j : Int) (i : Int) rfl rfl rfl) (by have := nm_lt R HR.out _ hv.out; rw [nm_edge] at this; have := SL2.out; show offE R j + (i - 1) ≤ 100000; omega) (by rw [World.size_alloc]; omega) (fun v' w5 k1 k2 => ?_); have HB5 := Lib.hid (Below.grown (HB.out.alloc sz _) k2 (by rw [World.size_alloc]; omega) (row_ge OW.out)); have K1 := Lib.hid k1; clear k1 k2)
                  go_roundg (r - (i + 1))
                  case measure => omega
                  case rel => exact ⟨i + 1, by omega, by omega, rfl, by simp, by have h := K1.out; have e := TN.out (2, j, i) hv.out _ (nm_edge R j i); show Sps _ _ _ (offE R j + (i + 1 - 1)) (List.take (offE R j + (i + 1 - 1)) _); rw [show offE R j + (i + 1 - 1) = offE R j + (i - 1) + 1 by omega, e]; exact h, HB5.out⟩
                · obtain rfl : i = r := by omega
                  have hi3 : ¬ (i : Int) < (i : Int) := by omega
                  go_wp2_with fail
                  go_roundg (4 - (j + 1))
                  case measure => omega
                  case rel => exact ⟨j + 1, by omega, by omega, rfl, by simp, by have h := OW.out; rw [offE, HR'.out]; exact h, HB.out⟩
            · obtain rfl : j = 4 := by omega
              go_wp2_with fail

              have hM3 : (0 : Int) ≤ (M : Int) := by omega
              go_loopg [7, 11] (M - 1) (fun k v i wr => LsRel R (fun y => offE R 4 + (y - 1) * (M - 1)) 1 M (w.heap.size + 1) w1 k v i wr)
              case atStart => exact ⟨1, by omega, by omega, rfl, rfl, by simpa using OW.out, HB.out⟩
              case round =>
                obtain ⟨y, hy1, hy2, rfl, rfl, own, hb⟩ := hrel
                dsimp only at own
                have OW := Lib.hid own
                have HB := Lib.hid hb
                have sz : w.heap.size + 1 ≤ wr.heap.size := Nat.le_trans S1 hb.size
                clear own hb
                by_cases hlty : y < M
                · have hy3 : (y : Int) < (M : Int) := by omega
                  go_wp2_with fail
                  go_loopg [7, 12] (M - 1) (fun k v i wr => LsRel R (fun x => offE R 4 + (y - 1) * (M - 1) + (x - 1)) 1 M (w.heap.size + 1) w1 k v i wr)
                  case atStart => exact ⟨1, by omega, by omega, rfl, rfl, by simpa using OW.out, HB.out⟩
                  case round =>
                    obtain ⟨x, hx1, hx2, rfl, rfl, own, hb⟩ := hrel
                    dsimp only at own
                    have OW := Lib.hid own
                    have HB := Lib.hid hb
                    have sz : w.heap.size + 1 ≤ wr.heap.size := Nat.le_trans S1 hb.size
                    clear own hb
                    by_cases hltx : x < M
                    · have hx3 : (x : Int) < (M : Int) := by omega
                      have hv : Hid (vs R (3, x, y)) := Lib.hid (vs_inner ⟨hx1, by rw [HM.out]; exact hltx⟩ ⟨hy1, by rw [HM.out]; exact hlty⟩)
                      have hnn : Hid (nm R (3, x, y) = offE R 4 + (y - 1) * (M - 1) + (x - 1)) := Lib.hid (by rw [nm_inner, HM.out, Nat.add_assoc])
                      have hnl : offE R 4 + (y - 1) * (M - 1) + (x - 1) ≤ 100000 := by have := nm_lt R HR.out _ hv.out; rw [hnn.out] at this; have := SL2.out; omega
                      go_wp2_with (first
                        | (go_at_call 39; ((with_reducible refine (rinner_n x y (x : Int) (y : Int) rfl rfl _).mono ?_); rintro e w2 ⟨rfl, hb2⟩; have OW2 := Lib.hid (row_below OW.out hb2); have HB2 := Lib.hid (HB.out.trans (hb2.mono sz)); have sz2 : w.heap.size + 1 ≤ w2.heap.size := Nat.le_trans sz hb2.size; unfold V3n))
                        | (at_builtin; (with_reducible change wpList _ _ _ (Oper.mk _ (Op.call ⟨Callee.builtin Builtin.append, _, _⟩) _ _ _ _ :: _) _ _); refine wpList_sp _ rfl _ _ rfl (w.heap.size + 1) _ _ _ rfl (World.ownsRow.alloc OW2.out _) ⟨w2.heap.size, 0, none⟩ 1 (3, x, y) rfl (news3 w2 _ rfl (3, x, y) _ 3 (x : Int) (y : Int) rfl rfl rfl) hnl (by rw [World.size_alloc]; omega) (fun v' w5 k1 k2 => ?_); have HB5 := Lib.hid (Below.grown (HB2.out.alloc sz2 _) k2 (by rw [World.size_alloc]; omega) (row_ge OW2.out)); have K1 := Lib.hid k1; clear k1 k2))
                      go_roundg (M - (x + 1))
                      case measure => omega
                      case rel => exact ⟨x + 1, by omega, by omega, rfl, by simp, by have h := K1.out; have e := TN.out (3, x, y) hv.out _ hnn.out; show Sps _ _ _ (offE R 4 + (y - 1) * (M - 1) + (x + 1 - 1)) (List.take (offE R 4 + (y - 1) * (M - 1) + (x + 1 - 1)) _); rw [show offE R 4 + (y - 1) * (M - 1) + (x + 1 - 1) = offE R 4 + (y - 1) * (M - 1) + (x - 1) + 1 by omega, e]; exact h, HB5.out⟩
                    · obtain rfl : x = M := by omega
                      have hx3 : ¬ (x : Int) < (x : Int) := by omega
                      go_wp2_with fail
                      go_roundg (x - (y + 1))
                      case measure => omega
                      case rel => exact ⟨y + 1, by omega, by omega, rfl, by simp, by have h := OW.out; show Sps _ _ _ (offE R 4 + (y + 1 - 1) * (x - 1)) (List.take (offE R 4 + (y + 1 - 1) * (x - 1)) _); rw [show offE R 4 + (y + 1 - 1) * (x - 1) = offE R 4 + (y - 1) * (x - 1) + (x - 1) by rw [Nat.add_sub_cancel, Nat.add_assoc, ← Nat.succ_mul, Nat.succ_eq_add_one, Nat.sub_add_cancel hy1]]; exact h, HB.out⟩
                · obtain rfl : y = M := by omega
                  obtain ⟨wK, rfl⟩ : ∃ wK : World, wK = wr := ⟨_, rfl⟩
                  have hN : offE R 4 + (y - 1) * (y - 1) = (spotsN R).length := by rw [(spots_num R HR.out).2, HM.out]
                  have SF := OW.out
                  rw [hN, List.take_length] at SF
                  obtain ⟨N, hNN⟩ : ∃ N, (spotsN R).length = N := ⟨_, rfl⟩
                  rw [hNN] at SF
                  obtain ⟨p, c, rfl⟩ := row_shape SF
                  have hy3 : ¬ (y : Int) < (y : Int) := by omega
                  have SK : w.heap.size + 1 ≤ wK.heap.size := Nat.le_trans S1 HB.out.size
                  have HK := Lib.hid (show Below w.heap.size w wK from HW1.out.trans (HB.out.mono (by omega)))
                  have RCK := Lib.hid (show ∀ j, j < 4 → ∀ W, Below wK.heap.size wK W → W.cell? ⟨w.heap.size, j, none⟩ = some (.int .i64 (R.r j : Int)) from fun j hj W hW => (hW.cell (p := ⟨w.heap.size, j, none⟩) (Nat.lt_of_lt_of_le (Nat.lt_succ_self _) SK)).trans (RC.out j hj _ HB.out))
                  have NU := Lib.hid (number_n R HR.out p N c _ hNN wK SF)
                  have SFH := Lib.hid SF
                  have HNN := Lib.hid hNN
                  clear SF hNN hN
                  by_cases hM1 : y = 1
                  · have z1 : ((y : Int) == 1) = true := by rw [hM1]; rfl
                    have HT := Lib.hid (show trisN R = [(0, 1, 2), (0, 2, 3)] by rw [trisN, if_pos (by rw [HM.out, hM1])])
                    have hM2 : (y : Int) = 1 := by omega
                    clear hM1
                    go_wp2_with fail
                    go_returns
                    exact ⟨p, c, some ⟨wK.heap.size, 0, none⟩, 2, by rw [HT.out, HNN.out]; simp, by rw [HNN.out]; exact row_mono (World.ownsRow.alloc SFH.out _) (by omega), by rw [HT.out]; exact trs_two (by have := HK.out.size; omega), HK.out.alloc HK.out.size _⟩
                  · have z1 : ((y : Int) == 1) = false := beq_eq_false_iff_ne.mpr (by omega)
                    have z2 : ¬ (y : Int) = 1 := by omega
                    have HT := Lib.hid (show trisN R = midN R (y - 2) ++ (List.range 4).flatMap (stripN R) by rw [trisN, if_neg (by rw [HM.out]; exact hM1), HM.out])
                    have hm2 : 2 ≤ y := by omega
                    clear hM1 OW
                    go_wp2_with fail
                    have hmm : (0 : Int) ≤ (y : Int) - 1 := by omega
                    go_loopg [13, 14] (y - 2) (fun k v i wr => TmRel R (fun b => midN R (b - 1)) (y - 1) wK.heap.size wK k v i wr)
                    case atStart => exact ⟨1, by omega, by omega, by omega, rfl, trs_new (Nat.le_refl _), (Below.refl _ _).alloc (Nat.le_refl _) _⟩
                    case round =>
                      obtain ⟨b, hb1, hb2, rfl, rfl, own, hb⟩ := hrel
                      dsimp only at own
                      have OW := Lib.hid own
                      have HB := Lib.hid hb
                      clear own hb
                      by_cases hltb : b < y - 1
                      · have hb3 : (b : Int) < (y : Int) - 1 := by omega
                        go_wp2_with fail
                        go_loopg [13, 15] (y - 2) (fun k v i wr => TmRel R (fun a => midN R (b - 1) ++ midR R b (a - 1)) (y - 1) wK.heap.size wK k v i wr)
                        case atStart => exact ⟨1, by omega, by omega, by omega, rfl, by simpa [midR] using OW.out, HB.out⟩
                        case round =>
                          obtain ⟨x, hx1, hx2, rfl, rfl, own, hb⟩ := hrel
                          dsimp only at own
                          have hlen : (midN R (b - 1) ++ midR R b (x - 1)).length ≤ 1000 := by
                            rw [List.length_append, midN_len, midR_len, HM.out]
                            have := Nat.mul_le_mul (show b - 1 ≤ 16 by omega) (show 2 * (y - 2) ≤ 32 by omega)
                            omega
                          obtain ⟨ts, hts⟩ : ∃ ts, midN R (b - 1) ++ midR R b (x - 1) = ts := ⟨_, rfl⟩
                          rw [hts] at own hlen
                          obtain ⟨tl, htl⟩ : ∃ tl, ts.length = tl := ⟨_, rfl⟩
                          rw [htl] at own hlen
                          have OW := Lib.hid own
                          have HTS := Lib.hid hts
                          have HTL := Lib.hid htl
                          have hbk := hb
                          have szk : wK.heap.size ≤ wr.heap.size := hb.size
                          clear own hb hts htl
                          by_cases hltx : x < y - 1
                          · have hx3 : (x : Int) < (y : Int) - 1 := by omega
                            have v1 := Lib.hid (vs_inner (R := R) (a := x) (b := b) ⟨hx1, by rw [HM.out]; omega⟩ ⟨hb1, by rw [HM.out]; omega⟩)
                            have v2 := Lib.hid (vs_inner (R := R) (a := x + 1) (b := b) ⟨by omega, by rw [HM.out]; omega⟩ ⟨hb1, by rw [HM.out]; omega⟩)
                            have v3 := Lib.hid (vs_inner (R := R) (a := x + 1) (b := b + 1) ⟨by omega, by rw [HM.out]; omega⟩ ⟨by omega, by rw [HM.out]; omega⟩)
                            have v4 := Lib.hid (vs_inner (R := R) (a := x) (b := b + 1) ⟨hx1, by rw [HM.out]; omega⟩ ⟨by omega, by rw [HM.out]; omega⟩)
                            have I1 := Lib.hid (rinner_n x b (x : Int) (b : Int) rfl rfl)
                            have I2 := Lib.hid (rinner_n (x + 1) b ((x : Int) + 1) (b : Int) (by simp) rfl)
                            have I3 := Lib.hid (rinner_n (x + 1) (b + 1) ((x : Int) + 1) ((b : Int) + 1) (by simp) (by simp))
                            have I4 := Lib.hid (rinner_n x (b + 1) (x : Int) ((b : Int) + 1) rfl (by simp))
                            go_wp2_with (first
                              | (go_at_call 39; ((with_reducible refine (I1.out _).mono ?_); rintro e w2 ⟨rfl, hc2⟩))
                              | (go_at_call 40; ((with_reducible refine (NU.out (3, x, b) v1.out _ (by (repeat' (first | (with_reducible exact Below.refl _ _) | (with_reducible refine bstep (by with_reducible assumption) ?_) | (with_reducible refine Below.alloc ?_ ?_ _) | (with_reducible refine Below.drew ?_) | (with_reducible refine below_drewN ?_ _) | (with_reducible refine Below.setCell ?_ ?_ _) | go_size)))).mono ?_); rintro e w3 ⟨rfl, hc3⟩))
                              | (go_at_call 39; ((with_reducible refine (I2.out _).mono ?_); rintro e w4 ⟨rfl, hc4⟩))
                              | (go_at_call 40; ((with_reducible refine (NU.out (3, x + 1, b) v2.out _ (by (repeat' (first | (with_reducible exact Below.refl _ _) | (with_reducible refine bstep (by with_reducible assumption) ?_) | (with_reducible refine Below.alloc ?_ ?_ _) | (with_reducible refine Below.drew ?_) | (with_reducible refine below_drewN ?_ _) | (with_reducible refine Below.setCell ?_ ?_ _) | go_size)))).mono ?_); rintro e w5 ⟨rfl, hc5⟩))
                              | (go_at_call 39; ((with_reducible refine (I3.out _).mono ?_); rintro e w6 ⟨rfl, hc6⟩))
                              | (go_at_call 40; ((with_reducible refine (NU.out (3, x + 1, b + 1) v3.out _ (by (repeat' (first | (with_reducible exact Below.refl _ _) | (with_reducible refine bstep (by with_reducible assumption) ?_) | (with_reducible refine Below.alloc ?_ ?_ _) | (with_reducible refine Below.drew ?_) | (with_reducible refine below_drewN ?_ _) | (with_reducible refine Below.setCell ?_ ?_ _) | go_size)))).mono ?_); rintro e w7 ⟨rfl, hc7⟩))
                              | (go_at_call 39; ((with_reducible refine (I4.out _).mono ?_); rintro e w8 ⟨rfl, hc8⟩))
                              | (go_at_call 40; ((with_reducible refine (NU.out (3, x, b + 1) v4.out _ (by (repeat' (first | (with_reducible exact Below.refl _ _) | (with_reducible refine bstep (by with_reducible assumption) ?_) | (with_reducible refine Below.alloc ?_ ?_ _) | (with_reducible refine Below.drew ?_) | (with_reducible refine below_drewN ?_ _) | (with_reducible refine Below.setCell ?_ ?_ _) | go_size)))).mono ?_); rintro e w9 ⟨rfl, hc9⟩; have OW9 := Lib.hid (row_below OW.out (by (repeat' (first | (with_reducible exact Below.refl _ _) | (with_reducible refine bstep (by with_reducible assumption) ?_) | (with_reducible refine Below.alloc ?_ ?_ _) | (with_reducible refine Below.drew ?_) | (with_reducible refine below_drewN ?_ _) | (with_reducible refine Below.setCell ?_ ?_ _) | go_size)) : Below wr.heap.size wr w9)); have HB9 := Lib.hid (by (repeat' (first | (with_reducible exact Below.refl _ _) | (with_reducible refine bstep (by with_reducible assumption) ?_) | (with_reducible refine Below.alloc ?_ ?_ _) | (with_reducible refine Below.drew ?_) | (with_reducible refine below_drewN ?_ _) | (with_reducible refine Below.setCell ?_ ?_ _) | go_size)) : Below wK.heap.size wK w9); have sz9 : wK.heap.size ≤ w9.heap.size := HB9.out.size))
                              | (at_builtin; (with_reducible change wpList _ _ _ (Oper.mk _ (Op.call ⟨Callee.builtin Builtin.append, _, _⟩) _ _ _ _ :: _) _ _); refine wpList_tr _ rfl _ _ rfl wK.heap.size _ _ _ rfl (World.ownsRow.alloc OW9.out _) ⟨w9.heap.size, 0, none⟩ 2 2 [(inn R x b, inn R (x + 1) b, inn R (x + 1) (b + 1)), (inn R x b, inn R (x + 1) (b + 1), inn R x (b + 1))] rfl rfl (news_alloc w9 _ rfl _ _) (by omega) (by rw [World.size_alloc]; omega) (fun v' wz k1 k2 => ?_); have HBZ := Lib.hid (Below.grown (HB9.out.alloc sz9 _) k2 (by rw [World.size_alloc]; omega) (row_ge OW9.out)); have K1 := Lib.hid k1; clear k1 k2))
                            go_roundg (y - 1 - (x + 1))
                            case measure => omega
                            case rel => exact ⟨x + 1, by omega, by omega, rfl, by simp, by
                              have h := K1.out
                              have e : midN R (b - 1) ++ midR R b (x + 1 - 1) = ts ++ [(inn R x b, inn R (x + 1) b, inn R (x + 1) (b + 1)), (inn R x b, inn R (x + 1) (b + 1), inn R x (b + 1))] := by
                                rw [← HTS.out]
                                obtain ⟨x', rfl⟩ : ∃ x', x = x' + 1 := ⟨x - 1, by omega⟩
                                simp only [Nat.add_sub_cancel]
                                rw [midR_succ, List.append_assoc]
                              show Trs _ _ _ (midN R (b - 1) ++ midR R b (x + 1 - 1)).length (midN R (b - 1) ++ midR R b (x + 1 - 1))
                              rw [e, List.length_append, HTL.out]
                              exact h, HBZ.out⟩
                          · have hx3 : ¬ (x : Int) < (y : Int) - 1 := by omega
                            have hx4 := Lib.hid (show x - 1 = y - 2 by omega)
                            go_wp2_with fail
                            go_roundg (y - 1 - (b + 1))
                            case measure => omega
                            case rel => exact ⟨b + 1, by omega, by omega, rfl, by simp, by
                              have h := OW.out
                              have e : midN R (b + 1 - 1) = ts := by
                                rw [← HTS.out, hx4.out]
                                obtain ⟨b', rfl⟩ : ∃ b', b = b' + 1 := ⟨b - 1, by omega⟩
                                simp only [Nat.add_sub_cancel]
                                rw [midN_succ, HM.out]
                              show Trs _ _ _ (midN R (b + 1 - 1)).length (midN R (b + 1 - 1))
                              rw [e, HTL.out]; exact h, hbk⟩
                      · have hb3 : ¬ (b : Int) < (y : Int) - 1 := by omega
                        have hb4 : b - 1 = y - 2 := by omega
                        have OW2 := OW.out
                        rw [hb4] at OW2
                        have OWM := Lib.hid OW2
                        clear OW2 OW hb4
                        go_wp2_with fail

                        go_loopg [13, 20] 4 (fun k v i wr => T0Rel R (fun j => midN R (y - 2) ++ (List.range j).flatMap (stripN R)) 4 wK.heap.size wK k v i wr)
                        case atStart => exact ⟨0, by omega, rfl, rfl, by simpa using OWM.out, HB.out⟩
                        case round =>
                          obtain ⟨j, hj, rfl, rfl, own, hb⟩ := hrel
                          dsimp only at own
                          have hts4 : (midN R (y - 2) ++ (List.range j).flatMap (stripN R)).length ≤ 1000 := by have := tris_le R HR.out j hj; rw [HM.out] at this; exact this
                          obtain ⟨ts, hts⟩ : ∃ ts, midN R (y - 2) ++ (List.range j).flatMap (stripN R) = ts := ⟨_, rfl⟩
                          rw [hts] at own hts4
                          have OW := Lib.hid own
                          have HTS := Lib.hid hts
                          have HBQ := Lib.hid hb
                          clear own hts
                          by_cases hlt9 : j < 4
                          · have hj0 : (0 : Int) ≤ (j : Int) := by omega
                            have hj1 : (j : Int) < 4 := by omega
                            have cj := RCK.out j hlt9 _ hb
                            have hr := Rt.ok_r HR.out j
                            have hsl : (stripN R j).length ≤ 40 := by rw [stripN, stripF_len, HM.out]; omega
                            have hsn : stripN R j = stripF R j (R.r j + (y - 2)) 0 1 := by rw [stripN, HM.out]
                            have TO : Hid (∀ i t, takeO R j i t = (decide (i < R.r j) && (decide (t = y - 1) || decide ((2 * i + 1) * y ≤ (2 * t + 1) * R.r j)))) := Lib.hid (fun i t => by rw [takeO, HM.out])
                            obtain ⟨r, hr'⟩ : ∃ r, R.r j = r := ⟨_, rfl⟩
                            rw [hr'] at cj hr hsn TO
                            have HR' := Lib.hid hr'
                            have HSN := Lib.hid hsn
                            have HSL := Lib.hid hsl
                            clear hr' hsn hsl hb
                            go_wp2_with fail
                            go_loopg [13, 22, 23] (r + (y - 2)) (fun g v i t wr => TsRel R ts j r y wK.heap.size wK g v i t wr)
                            case atStart => exact ⟨0, 1, [], by omega, by omega, by omega, by omega, rfl, rfl, by rw [List.append_nil]; rw [← HTS.out]; rw [← HTS.out] at OW; exact OW.out, by rw [List.nil_append]; exact HSN.out.symm, HBQ.out⟩
                            case round =>
                              obtain ⟨i, t, d, hi, ht1, ht2, hg, rfl, rfl, own, hd, hb⟩ := hrel
                              have HD := Lib.hid hd
                              have HG := Lib.hid hg
                              have hlen : (ts ++ d).length ≤ 9000 := by
                                have h1 := HSL.out
                                rw [← hd, List.length_append] at h1
                                rw [List.length_append]; omega
                              obtain ⟨tl, htl⟩ : ∃ tl, (ts ++ d).length = tl := ⟨_, rfl⟩
                              rw [htl] at own hlen
                              have OW := Lib.hid own
                              have HTL := Lib.hid htl
                              have hbk := hb
                              clear own hb hd hg htl hts4 cj
                              by_cases hir : i < r
                              · have i1 : (i : Int) < (r : Int) := by omega
                                by_cases htl : t = y - 1
                                · have t1 : (t : Int) = (y : Int) - 1 := by omega
                                  have t2 : ((t : Int) == (y : Int) - 1) = true := by rw [t1]; simp
                                  have TT := Lib.hid htl
                                  have T1 := Lib.hid t1
                                  clear htl t1
                                  have HTO := Lib.hid (show takeO R j i t = true from by rw [TO.out]; simp [hir, TT.out])
                                  obtain ⟨f, hf⟩ : ∃ f, (r - i) + (y - 1 - t) = f + 1 := ⟨(r - i) + (y - 1 - t) - 1, by omega⟩
                                  have HF := Lib.hid hf
                                  clear hf
                                  have O1 := Lib.hid (router_n R j i r (i : Int) rfl HR'.out hlt9)
                                  have P1 := Lib.hid (ouS_vs (R := R) (k := j) (i := i) hlt9 (by rw [HR'.out]; omega))
                                  have B1 := Lib.hid (rbeside_n R j t y (t : Int) rfl HM.out (by omega) hlt9 ⟨ht1, by omega⟩)
                                  have Q1 := Lib.hid (vs_bes (R := R) (k := j) (t := t) ⟨ht1, by rw [HM.out]; omega⟩)
                                  have O2 := Lib.hid (router_n R j (i + 1) r ((i : Int) + 1) (by simp) HR'.out hlt9)
                                  have P2 := Lib.hid (ouS_vs (R := R) (k := j) (i := i + 1) hlt9 (by rw [HR'.out]; omega))
                                  go_wp2_with (first
                                    | (go_at_call 41; ((with_reducible refine (O1.out _).mono ?_); rintro e w2 ⟨rfl, hc2⟩))
                                    | (go_at_call 40; ((with_reducible refine (NU.out (ouS R j i) P1.out _ (by (repeat' (first | (with_reducible exact Below.refl _ _) | (with_reducible refine bstep (by with_reducible assumption) ?_) | (with_reducible refine Below.alloc ?_ ?_ _) | (with_reducible refine Below.drew ?_) | (with_reducible refine below_drewN ?_ _) | (with_reducible refine Below.setCell ?_ ?_ _) | go_size)))).mono ?_); rintro e w3 ⟨rfl, hc3⟩; rw [ouS_nm]))
                                    | (go_at_call 42; ((with_reducible refine (B1.out _).mono ?_); rintro e w4 ⟨rfl, hc4⟩))
                                    | (go_at_call 40; ((with_reducible refine (NU.out (besS R.m j t) Q1.out _ (by (repeat' (first | (with_reducible exact Below.refl _ _) | (with_reducible refine bstep (by with_reducible assumption) ?_) | (with_reducible refine Below.alloc ?_ ?_ _) | (with_reducible refine Below.drew ?_) | (with_reducible refine below_drewN ?_ _) | (with_reducible refine Below.setCell ?_ ?_ _) | go_size)))).mono ?_); rintro e w5 ⟨rfl, hc5⟩))
                                    | (go_at_call 41; ((with_reducible refine (O2.out _).mono ?_); rintro e w6 ⟨rfl, hc6⟩))
                                    | (go_at_call 40; ((with_reducible refine (NU.out (ouS R j (i + 1)) P2.out _ (by (repeat' (first | (with_reducible exact Below.refl _ _) | (with_reducible refine bstep (by with_reducible assumption) ?_) | (with_reducible refine Below.alloc ?_ ?_ _) | (with_reducible refine Below.drew ?_) | (with_reducible refine below_drewN ?_ _) | (with_reducible refine Below.setCell ?_ ?_ _) | go_size)))).mono ?_); rintro e w7 ⟨rfl, hc7⟩; rw [ouS_nm]; have OW7 := Lib.hid (row_below OW.out (by (repeat' (first | (with_reducible exact Below.refl _ _) | (with_reducible refine bstep (by with_reducible assumption) ?_) | (with_reducible refine Below.alloc ?_ ?_ _) | (with_reducible refine Below.drew ?_) | (with_reducible refine below_drewN ?_ _) | (with_reducible refine Below.setCell ?_ ?_ _) | go_size)) : Below wr.heap.size wr w7)); have HB7 := Lib.hid (by (repeat' (first | (with_reducible exact Below.refl _ _) | (with_reducible refine bstep (by with_reducible assumption) ?_) | (with_reducible refine Below.alloc ?_ ?_ _) | (with_reducible refine Below.drew ?_) | (with_reducible refine below_drewN ?_ _) | (with_reducible refine Below.setCell ?_ ?_ _) | go_size)) : Below wK.heap.size wK w7); have sz7 : wK.heap.size ≤ w7.heap.size := HB7.out.size))
                                    | (at_builtin; (with_reducible change wpList _ _ _ (Oper.mk _ (Op.call ⟨Callee.builtin Builtin.append, _, _⟩) _ _ _ _ :: _) _ _); refine wpList_tr _ rfl _ _ rfl wK.heap.size _ _ _ rfl (World.ownsRow.alloc OW7.out _) ⟨w7.heap.size, 0, none⟩ 1 1 [(ou R j i, ou R j (i + 1), bes R j t)] rfl rfl (news_alloc w7 _ rfl _ _) (by omega) (by rw [World.size_alloc]; omega) (fun v' wz k1 k2 => ?_); have HBZ := Lib.hid (Below.grown (HB7.out.alloc sz7 _) k2 (by rw [World.size_alloc]; omega) (row_ge OW7.out)); have K1 := Lib.hid k1; clear k1 k2))
                                  go_roundg f
                                  case measure => have := HG.out; have := HF.out; omega
                                  case rel => exact ⟨i + 1, t, d ++ [(ou R j i, ou R j (i + 1), bes R j t)], by omega, by omega, by omega, by have := HF.out; omega, by simp, by simp, by rw [← List.append_assoc, List.length_append, HTL.out]; exact K1.out, by have h := HD.out; rw [HG.out, HF.out, strip_o HTO.out] at h; rw [List.append_assoc]; exact h, HBZ.out⟩
                                · have t1 : ¬ ((t : Int) = (y : Int) - 1) := by omega
                                  have t2 : ((t : Int) == (y : Int) - 1) = false := beq_eq_false_iff_ne.mpr t1
                                  obtain ⟨P, hP⟩ : ∃ P, (2 * i + 1) * y = P := ⟨_, rfl⟩
                                  obtain ⟨Q, hQ⟩ : ∃ Q, (2 * t + 1) * r = Q := ⟨_, rfl⟩
                                  have hP2 : P ≤ 33 * 16 := by rw [← hP]; exact Nat.mul_le_mul (by omega) (by omega)
                                  have hQ2 : Q ≤ 33 * 16 := by rw [← hQ]; exact Nat.mul_le_mul (by omega) (by omega)
                                  have wP : IntKind.i64.wrap ((2 * (i : Int) + 1) * (y : Int)) = (P : Int) := by rw [show (2 * (i : Int) + 1) * (y : Int) = (P : Int) by rw [← hP]; simp]; exact IntWalk.i64_in _ (by omega)
                                  have wQ : IntKind.i64.wrap ((2 * (t : Int) + 1) * (r : Int)) = (Q : Int) := by rw [show (2 * (t : Int) + 1) * (r : Int) = (Q : Int) by rw [← hQ]; simp]; exact IntWalk.i64_in _ (by omega)
                                  have TO2 := Lib.hid (show takeO R j i t = decide (P ≤ Q) by rw [TO.out, hP, hQ]; simp [hir, htl])
                                  clear hP hQ
                                  by_cases hpq : P ≤ Q
                                  · have p1 : (P : Int) ≤ (Q : Int) := by omega
                                    have HTO := Lib.hid (show takeO R j i t = true from by rw [TO.out]; rw [← TO.out, TO2.out]; simp [hpq])
                                    obtain ⟨f, hf⟩ : ∃ f, (r - i) + (y - 1 - t) = f + 1 := ⟨(r - i) + (y - 1 - t) - 1, by omega⟩
                                    have HF := Lib.hid hf
                                    clear hf
                                    have O1 := Lib.hid (router_n R j i r (i : Int) rfl HR'.out hlt9)
                                    have P1 := Lib.hid (ouS_vs (R := R) (k := j) (i := i) hlt9 (by rw [HR'.out]; omega))
                                    have B1 := Lib.hid (rbeside_n R j t y (t : Int) rfl HM.out (by omega) hlt9 ⟨ht1, by omega⟩)
                                    have Q1 := Lib.hid (vs_bes (R := R) (k := j) (t := t) ⟨ht1, by rw [HM.out]; omega⟩)
                                    have O2 := Lib.hid (router_n R j (i + 1) r ((i : Int) + 1) (by simp) HR'.out hlt9)
                                    have P2 := Lib.hid (ouS_vs (R := R) (k := j) (i := i + 1) hlt9 (by rw [HR'.out]; omega))
                                    go_wp2_with (first
                                      | (go_at_call 41; ((with_reducible refine (O1.out _).mono ?_); rintro e w2 ⟨rfl, hc2⟩))
                                      | (go_at_call 40; ((with_reducible refine (NU.out (ouS R j i) P1.out _ (by (repeat' (first | (with_reducible exact Below.refl _ _) | (with_reducible refine bstep (by with_reducible assumption) ?_) | (with_reducible refine Below.alloc ?_ ?_ _) | (with_reducible refine Below.drew ?_) | (with_reducible refine below_drewN ?_ _) | (with_reducible refine Below.setCell ?_ ?_ _) | go_size)))).mono ?_); rintro e w3 ⟨rfl, hc3⟩; rw [ouS_nm]))
                                      | (go_at_call 42; ((with_reducible refine (B1.out _).mono ?_); rintro e w4 ⟨rfl, hc4⟩))
                                      | (go_at_call 40; ((with_reducible refine (NU.out (besS R.m j t) Q1.out _ (by (repeat' (first | (with_reducible exact Below.refl _ _) | (with_reducible refine bstep (by with_reducible assumption) ?_) | (with_reducible refine Below.alloc ?_ ?_ _) | (with_reducible refine Below.drew ?_) | (with_reducible refine below_drewN ?_ _) | (with_reducible refine Below.setCell ?_ ?_ _) | go_size)))).mono ?_); rintro e w5 ⟨rfl, hc5⟩))
                                      | (go_at_call 41; ((with_reducible refine (O2.out _).mono ?_); rintro e w6 ⟨rfl, hc6⟩))
                                      | (go_at_call 40; ((with_reducible refine (NU.out (ouS R j (i + 1)) P2.out _ (by (repeat' (first | (with_reducible exact Below.refl _ _) | (with_reducible refine bstep (by with_reducible assumption) ?_) | (with_reducible refine Below.alloc ?_ ?_ _) | (with_reducible refine Below.drew ?_) | (with_reducible refine below_drewN ?_ _) | (with_reducible refine Below.setCell ?_ ?_ _) | go_size)))).mono ?_); rintro e w7 ⟨rfl, hc7⟩; rw [ouS_nm]; have OW7 := Lib.hid (row_below OW.out (by (repeat' (first | (with_reducible exact Below.refl _ _) | (with_reducible refine bstep (by with_reducible assumption) ?_) | (with_reducible refine Below.alloc ?_ ?_ _) | (with_reducible refine Below.drew ?_) | (with_reducible refine below_drewN ?_ _) | (with_reducible refine Below.setCell ?_ ?_ _) | go_size)) : Below wr.heap.size wr w7)); have HB7 := Lib.hid (by (repeat' (first | (with_reducible exact Below.refl _ _) | (with_reducible refine bstep (by with_reducible assumption) ?_) | (with_reducible refine Below.alloc ?_ ?_ _) | (with_reducible refine Below.drew ?_) | (with_reducible refine below_drewN ?_ _) | (with_reducible refine Below.setCell ?_ ?_ _) | go_size)) : Below wK.heap.size wK w7); have sz7 : wK.heap.size ≤ w7.heap.size := HB7.out.size))
                                      | (at_builtin; (with_reducible change wpList _ _ _ (Oper.mk _ (Op.call ⟨Callee.builtin Builtin.append, _, _⟩) _ _ _ _ :: _) _ _); refine wpList_tr _ rfl _ _ rfl wK.heap.size _ _ _ rfl (World.ownsRow.alloc OW7.out _) ⟨w7.heap.size, 0, none⟩ 1 1 [(ou R j i, ou R j (i + 1), bes R j t)] rfl rfl (news_alloc w7 _ rfl _ _) (by omega) (by rw [World.size_alloc]; omega) (fun v' wz k1 k2 => ?_); have HBZ := Lib.hid (Below.grown (HB7.out.alloc sz7 _) k2 (by rw [World.size_alloc]; omega) (row_ge OW7.out)); have K1 := Lib.hid k1; clear k1 k2))
                                    go_roundg f
                                    case measure => have := HG.out; have := HF.out; omega
                                    case rel => exact ⟨i + 1, t, d ++ [(ou R j i, ou R j (i + 1), bes R j t)], by omega, by omega, by omega, by have := HF.out; omega, by simp, by simp, by rw [← List.append_assoc, List.length_append, HTL.out]; exact K1.out, by have h := HD.out; rw [HG.out, HF.out, strip_o HTO.out] at h; rw [List.append_assoc]; exact h, HBZ.out⟩
                                  · have p1 : ¬ (P : Int) ≤ (Q : Int) := by omega
                                    have HTO := Lib.hid (show takeO R j i t = false from by rw [TO.out]; rw [← TO.out, TO2.out]; simp [hpq])
                                    obtain ⟨f, hf⟩ : ∃ f, (r - i) + (y - 1 - t) = f + 1 := ⟨(r - i) + (y - 1 - t) - 1, by omega⟩
                                    have HF := Lib.hid hf
                                    clear hf
                                    have O1 := Lib.hid (router_n R j i r (i : Int) rfl HR'.out hlt9)
                                    have P1 := Lib.hid (ouS_vs (R := R) (k := j) (i := i) hlt9 (by rw [HR'.out]; omega))
                                    have B1 := Lib.hid (rbeside_n R j t y (t : Int) rfl HM.out (by omega) hlt9 ⟨ht1, by omega⟩)
                                    have Q1 := Lib.hid (vs_bes (R := R) (k := j) (t := t) ⟨ht1, by rw [HM.out]; omega⟩)
                                    have B2 := Lib.hid (rbeside_n R j (t + 1) y ((t : Int) + 1) (by simp) HM.out (by omega) hlt9 ⟨by omega, by omega⟩)
                                    have Q2 := Lib.hid (vs_bes (R := R) (k := j) (t := t + 1) ⟨by omega, by rw [HM.out]; omega⟩)
                                    go_wp2_with (first
                                      | (go_at_call 41; ((with_reducible refine (O1.out _).mono ?_); rintro e w2 ⟨rfl, hc2⟩))
                                      | (go_at_call 40; ((with_reducible refine (NU.out (ouS R j i) P1.out _ (by (repeat' (first | (with_reducible exact Below.refl _ _) | (with_reducible refine bstep (by with_reducible assumption) ?_) | (with_reducible refine Below.alloc ?_ ?_ _) | (with_reducible refine Below.drew ?_) | (with_reducible refine below_drewN ?_ _) | (with_reducible refine Below.setCell ?_ ?_ _) | go_size)))).mono ?_); rintro e w3 ⟨rfl, hc3⟩; rw [ouS_nm]))
                                      | (go_at_call 42; ((with_reducible refine (B1.out _).mono ?_); rintro e w4 ⟨rfl, hc4⟩))
                                      | (go_at_call 40; ((with_reducible refine (NU.out (besS R.m j t) Q1.out _ (by (repeat' (first | (with_reducible exact Below.refl _ _) | (with_reducible refine bstep (by with_reducible assumption) ?_) | (with_reducible refine Below.alloc ?_ ?_ _) | (with_reducible refine Below.drew ?_) | (with_reducible refine below_drewN ?_ _) | (with_reducible refine Below.setCell ?_ ?_ _) | go_size)))).mono ?_); rintro e w5 ⟨rfl, hc5⟩))
                                      | (go_at_call 42; ((with_reducible refine (B2.out _).mono ?_); rintro e w6 ⟨rfl, hc6⟩))
                                      | (go_at_call 40; ((with_reducible refine (NU.out (besS R.m j (t + 1)) Q2.out _ (by (repeat' (first | (with_reducible exact Below.refl _ _) | (with_reducible refine bstep (by with_reducible assumption) ?_) | (with_reducible refine Below.alloc ?_ ?_ _) | (with_reducible refine Below.drew ?_) | (with_reducible refine below_drewN ?_ _) | (with_reducible refine Below.setCell ?_ ?_ _) | go_size)))).mono ?_); rintro e w7 ⟨rfl, hc7⟩; have OW7 := Lib.hid (row_below OW.out (by (repeat' (first | (with_reducible exact Below.refl _ _) | (with_reducible refine bstep (by with_reducible assumption) ?_) | (with_reducible refine Below.alloc ?_ ?_ _) | (with_reducible refine Below.drew ?_) | (with_reducible refine below_drewN ?_ _) | (with_reducible refine Below.setCell ?_ ?_ _) | go_size)) : Below wr.heap.size wr w7)); have HB7 := Lib.hid (by (repeat' (first | (with_reducible exact Below.refl _ _) | (with_reducible refine bstep (by with_reducible assumption) ?_) | (with_reducible refine Below.alloc ?_ ?_ _) | (with_reducible refine Below.drew ?_) | (with_reducible refine below_drewN ?_ _) | (with_reducible refine Below.setCell ?_ ?_ _) | go_size)) : Below wK.heap.size wK w7); have sz7 : wK.heap.size ≤ w7.heap.size := HB7.out.size))
                                      | (at_builtin; (with_reducible change wpList _ _ _ (Oper.mk _ (Op.call ⟨Callee.builtin Builtin.append, _, _⟩) _ _ _ _ :: _) _ _); refine wpList_tr _ rfl _ _ rfl wK.heap.size _ _ _ rfl (World.ownsRow.alloc OW7.out _) ⟨w7.heap.size, 0, none⟩ 1 1 [(ou R j i, bes R j (t + 1), bes R j t)] rfl rfl (news_alloc w7 _ rfl _ _) (by omega) (by rw [World.size_alloc]; omega) (fun v' wz k1 k2 => ?_); have HBZ := Lib.hid (Below.grown (HB7.out.alloc sz7 _) k2 (by rw [World.size_alloc]; omega) (row_ge OW7.out)); have K1 := Lib.hid k1; clear k1 k2))
                                    go_roundg f
                                    case measure => have := HG.out; have := HF.out; omega
                                    case rel => exact ⟨i, t + 1, d ++ [(ou R j i, bes R j (t + 1), bes R j t)], by omega, by omega, by omega, by have := HF.out; omega, by simp, by simp, by rw [← List.append_assoc, List.length_append, HTL.out]; exact K1.out, by have h := HD.out; rw [HG.out, HF.out, strip_t HTO.out] at h; rw [List.append_assoc]; exact h, HBZ.out⟩
                              · have i1 : ¬ (i : Int) < (r : Int) := by omega
                                by_cases htl : t < y - 1
                                · have t1 : (t : Int) < (y : Int) - 1 := by omega
                                  have HTO := Lib.hid (show takeO R j i t = false from by rw [TO.out]; simp [hir])
                                  obtain ⟨f, hf⟩ : ∃ f, (r - i) + (y - 1 - t) = f + 1 := ⟨(r - i) + (y - 1 - t) - 1, by omega⟩
                                  have HF := Lib.hid hf
                                  clear hf
                                  have O1 := Lib.hid (router_n R j i r (i : Int) rfl HR'.out hlt9)
                                  have P1 := Lib.hid (ouS_vs (R := R) (k := j) (i := i) hlt9 (by rw [HR'.out]; omega))
                                  have B1 := Lib.hid (rbeside_n R j t y (t : Int) rfl HM.out (by omega) hlt9 ⟨ht1, by omega⟩)
                                  have Q1 := Lib.hid (vs_bes (R := R) (k := j) (t := t) ⟨ht1, by rw [HM.out]; omega⟩)
                                  have B2 := Lib.hid (rbeside_n R j (t + 1) y ((t : Int) + 1) (by simp) HM.out (by omega) hlt9 ⟨by omega, by omega⟩)
                                  have Q2 := Lib.hid (vs_bes (R := R) (k := j) (t := t + 1) ⟨by omega, by rw [HM.out]; omega⟩)
                                  go_wp2_with (first
                                    | (go_at_call 41; ((with_reducible refine (O1.out _).mono ?_); rintro e w2 ⟨rfl, hc2⟩))
                                    | (go_at_call 40; ((with_reducible refine (NU.out (ouS R j i) P1.out _ (by (repeat' (first | (with_reducible exact Below.refl _ _) | (with_reducible refine bstep (by with_reducible assumption) ?_) | (with_reducible refine Below.alloc ?_ ?_ _) | (with_reducible refine Below.drew ?_) | (with_reducible refine below_drewN ?_ _) | (with_reducible refine Below.setCell ?_ ?_ _) | go_size)))).mono ?_); rintro e w3 ⟨rfl, hc3⟩; rw [ouS_nm]))
                                    | (go_at_call 42; ((with_reducible refine (B1.out _).mono ?_); rintro e w4 ⟨rfl, hc4⟩))
                                    | (go_at_call 40; ((with_reducible refine (NU.out (besS R.m j t) Q1.out _ (by (repeat' (first | (with_reducible exact Below.refl _ _) | (with_reducible refine bstep (by with_reducible assumption) ?_) | (with_reducible refine Below.alloc ?_ ?_ _) | (with_reducible refine Below.drew ?_) | (with_reducible refine below_drewN ?_ _) | (with_reducible refine Below.setCell ?_ ?_ _) | go_size)))).mono ?_); rintro e w5 ⟨rfl, hc5⟩))
                                    | (go_at_call 42; ((with_reducible refine (B2.out _).mono ?_); rintro e w6 ⟨rfl, hc6⟩))
                                    | (go_at_call 40; ((with_reducible refine (NU.out (besS R.m j (t + 1)) Q2.out _ (by (repeat' (first | (with_reducible exact Below.refl _ _) | (with_reducible refine bstep (by with_reducible assumption) ?_) | (with_reducible refine Below.alloc ?_ ?_ _) | (with_reducible refine Below.drew ?_) | (with_reducible refine below_drewN ?_ _) | (with_reducible refine Below.setCell ?_ ?_ _) | go_size)))).mono ?_); rintro e w7 ⟨rfl, hc7⟩; have OW7 := Lib.hid (row_below OW.out (by (repeat' (first | (with_reducible exact Below.refl _ _) | (with_reducible refine bstep (by with_reducible assumption) ?_) | (with_reducible refine Below.alloc ?_ ?_ _) | (with_reducible refine Below.drew ?_) | (with_reducible refine below_drewN ?_ _) | (with_reducible refine Below.setCell ?_ ?_ _) | go_size)) : Below wr.heap.size wr w7)); have HB7 := Lib.hid (by (repeat' (first | (with_reducible exact Below.refl _ _) | (with_reducible refine bstep (by with_reducible assumption) ?_) | (with_reducible refine Below.alloc ?_ ?_ _) | (with_reducible refine Below.drew ?_) | (with_reducible refine below_drewN ?_ _) | (with_reducible refine Below.setCell ?_ ?_ _) | go_size)) : Below wK.heap.size wK w7); have sz7 : wK.heap.size ≤ w7.heap.size := HB7.out.size))
                                    | (at_builtin; (with_reducible change wpList _ _ _ (Oper.mk _ (Op.call ⟨Callee.builtin Builtin.append, _, _⟩) _ _ _ _ :: _) _ _); refine wpList_tr _ rfl _ _ rfl wK.heap.size _ _ _ rfl (World.ownsRow.alloc OW7.out _) ⟨w7.heap.size, 0, none⟩ 1 1 [(ou R j i, bes R j (t + 1), bes R j t)] rfl rfl (news_alloc w7 _ rfl _ _) (by omega) (by rw [World.size_alloc]; omega) (fun v' wz k1 k2 => ?_); have HBZ := Lib.hid (Below.grown (HB7.out.alloc sz7 _) k2 (by rw [World.size_alloc]; omega) (row_ge OW7.out)); have K1 := Lib.hid k1; clear k1 k2))
                                  go_roundg f
                                  case measure => have := HG.out; have := HF.out; omega
                                  case rel => exact ⟨i, t + 1, d ++ [(ou R j i, bes R j (t + 1), bes R j t)], by omega, by omega, by omega, by have := HF.out; omega, by simp, by simp, by rw [← List.append_assoc, List.length_append, HTL.out]; exact K1.out, by have h := HD.out; rw [HG.out, HF.out, strip_t HTO.out] at h; rw [List.append_assoc]; exact h, HBZ.out⟩
                                · have t1 : ¬ (t : Int) < (y : Int) - 1 := by omega
                                  have hD : d = stripN R j := by
                                    have h := HD.out
                                    rw [HG.out, show (r - i) + (y - 1 - t) = 0 by omega, stripF, List.append_nil] at h
                                    exact h
                                  have HDD := Lib.hid hD
                                  clear hD
                                  go_wp2_with fail
                                  go_roundg (4 - (j + 1))
                                  case measure => omega
                                  case rel => exact ⟨j + 1, by omega, rfl, by simp, by
                                    have h := OW.out
                                    have e : midN R (y - 2) ++ (List.range (j + 1)).flatMap (stripN R) = ts ++ d := by
                                      rw [HDD.out, ← HTS.out, List.range_succ, List.flatMap_append, ← List.append_assoc]; simp
                                    show Trs _ _ _ (midN R (y - 2) ++ (List.range (j + 1)).flatMap (stripN R)).length (midN R (y - 2) ++ (List.range (j + 1)).flatMap (stripN R))
                                    rw [e, HTL.out]; exact h, hbk⟩
                          · obtain rfl : j = 4 := by omega
                            have HX := Lib.hid (show trisN R = ts by rw [HT.out]; exact HTS.out)
                            obtain ⟨q, d, hv⟩ := row_shape OW.out
                            have HV := Lib.hid hv
                            clear hv hb
                            go_wp2_with fail
                            go_returns
                            exact ⟨p, c, q, d, by rw [HNN.out, HX.out, HV.out]; simp, by rw [HNN.out]; exact row_mono (row_below SFH.out (HBQ.out)) (by omega), by rw [HX.out, ← HV.out]; exact row_mono OW.out (by omega), HK.out.trans (HBQ.out.mono (by omega))⟩
end Go.Proofs.Ytoalihdempcbjaa
