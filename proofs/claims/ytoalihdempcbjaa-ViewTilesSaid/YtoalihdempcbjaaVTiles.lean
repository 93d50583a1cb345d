/- The law on tiles, walked: for all sides and picks of 64 bits it answers true. -/
import Derived.Test.YtoalihdempcbjaaSeen
import Derived.Test.YtoalihdempcbjaaVAnswers
namespace Go.Proofs.Ytoalihdempcbjaa
open Go.RowKit
set_option maxRecDepth 1000000
set_option linter.unusedSimpArgs false
set_option linter.unusedVariables false
def VtRel (S B : Nat) (w : World) (N : Nat) (T : List T4) (k : Nat) (n i : Value) (wr : World) : Prop :=
  ∃ j L : Nat, j ≤ N ∧ k = N - j ∧ i = .int .i64 (j : Int) ∧ n = .int .i64 (L : Int) ∧ (pixL (T.take j)).length = L ∧ SeenW wr S (pixL (T.take j)) ∧ S < wr.heap.size ∧ Below B w wr
def VyRel (S B : Nat) (w : World) (t : T4) (D : List Nat) (k : Nat) (n y : Value) (wr : World) : Prop :=
  ∃ b L Y : Nat, b ≤ t.2.2.2 ∧ k = t.2.2.2 - b ∧ t.2.1 + b = Y ∧ y = .int .i64 (Y : Int) ∧ n = .int .i64 (L : Int) ∧ (D ++ rowD t b).length = L ∧ SeenW wr S (D ++ rowD t b) ∧ S < wr.heap.size ∧ Below B w wr
def VxRel (S B : Nat) (w : World) (t : T4) (D : List Nat) (b k : Nat) (n x : Value) (wr : World) : Prop :=
  ∃ a L X : Nat, a ≤ t.2.2.1 ∧ k = t.2.2.1 - a ∧ t.1 + a = X ∧ x = .int .i64 (X : Int) ∧ n = .int .i64 (L : Int) ∧ (D ++ colD t b a).length = L ∧ SeenW wr S (D ++ colD t b a) ∧ S < wr.heap.size ∧ Below B w wr
theorem tile_facts (T : List T4) (hn : (pixL T).Nodup) (j : Nat) (hj : j < T.length) : ∃ tx ty tw th, (tx, ty, tw, th) ∈ T ∧ (∀ i, i < 4 → (fl T).getD (j * 4 + i) 0 = (fl1 (tx, ty, tw, th)).getD i 0) ∧ pixL (T.take (j + 1)) = pixL (T.take j) ++ pix (tx, ty, tw, th) ∧ ∀ b a, b < th → a < tw → 64 * (ty + b) + (tx + a) ∉ pixL (T.take j) ++ rowD (tx, ty, tw, th) b ++ colD (tx, ty, tw, th) b a ∧ (pixL (T.take j) ++ rowD (tx, ty, tw, th) b ++ colD (tx, ty, tw, th) b a).length + 1 ≤ (pixL T).length := by
  obtain ⟨⟨tx, ty, tw, th⟩, ht⟩ : ∃ t, T[j] = t := ⟨_, rfl⟩
  refine ⟨tx, ty, tw, th, ht ▸ List.getElem_mem hj, fun i hi => by rw [fl_at T j hj i hi, ht], by rw [pixL_succ T j hj, ht], fun b a hb ha => ?_⟩
  have h1 := done_new T hn j b a hj (by rw [ht]; exact hb) (by rw [ht]; exact ha)
  have h2 := (done_pre T j b a hj (by rw [ht]; exact hb) (by rw [ht]; exact ha)).length_le
  rw [ht] at h1 h2
  rw [List.length_append] at h2
  exact ⟨h1, h2⟩
set_option maxHeartbeats 8000000 in
theorem vtiles_big (W H : Int) (ps : List Int) (v : Value) (w : World) (hn : 2000 < ps.length) (hv : Ints w v ps) :
    Calls Try.prog 4 #[.int .i64 W, .int .i64 H, v] w fun e w' => e = .returned (.bool true) ∧ Below w.heap.size w w' := by
  obtain ⟨p, c, rfl, _⟩ := ints_hp hv
  obtain ⟨n, hl⟩ : ∃ n, ps.length = n := ⟨_, rfl⟩
  rw [hl] at hn ⊢
  have h1 : (2000 : Int) < (n : Int) := by omega
  clear hv hl hn
  go_enter Try.func4, Try.ntmps4
  go_wp2_with (go_at_call 12; ((with_reducible refine (alive21_any _).mono ?_); rintro e w1 ⟨rfl, hb1⟩))
  go_returns
  exact ⟨by simp, by (repeat' (first | (with_reducible exact Below.refl _ _) | (with_reducible refine bstep (by with_reducible assumption) ?_) | (with_reducible refine Below.alloc ?_ ?_ _) | (with_reducible refine Below.drew ?_) | (with_reducible refine below_drewN ?_ _) | (with_reducible refine Below.setCell ?_ ?_ _) | go_size))⟩
set_option maxHeartbeats 8000000 in
theorem vtiles_no (W H : Int) (ps : List Int) (v : Value) (w : World) (hn : ps.length ≤ 2000) (hv : Ints w v ps) (hno : am2 1 64 W H = false) :
    Calls Try.prog 4 #[.int .i64 W, .int .i64 H, v] w fun e w' => e = .returned (.bool true) ∧ Below w.heap.size w w' := by
  have T1 := Lib.hid (fun u w => tiles_no W H hno u w)
  have hbad : ¬ ((1 ≤ W ∧ W ≤ 64) ∧ (1 ≤ H ∧ H ≤ 64)) := fun k => by rw [am2_iff.2 k] at hno; cases hno
  obtain ⟨p, c, rfl, _⟩ := ints_hp hv
  obtain ⟨n, hl⟩ : ∃ n, ps.length = n := ⟨_, rfl⟩
  rw [hl] at hn ⊢
  have h1 : ¬ (2000 : Int) < (n : Int) := by omega
  have HB := Lib.hid hbad
  clear hv hl hn hno hbad
  by_cases a1 : W < 1
  · go_enter Try.func4, Try.ntmps4
    go_wp2_with (first
      | (go_at_call 12; ((with_reducible refine (alive21_any _).mono ?_); rintro e w1 ⟨rfl, hb1⟩))
      | (go_at_call 16; ((with_reducible refine (T1.out _ _).mono ?_); rintro e w2 ⟨rfl, hb2⟩)))
    go_returns
    exact ⟨by simp, by (repeat' (first | (with_reducible exact Below.refl _ _) | (with_reducible refine bstep (by with_reducible assumption) ?_) | (with_reducible refine Below.alloc ?_ ?_ _) | (with_reducible refine Below.drew ?_) | (with_reducible refine below_drewN ?_ _) | (with_reducible refine Below.setCell ?_ ?_ _) | go_size))⟩
  by_cases a2 : 64 < W
  · go_enter Try.func4, Try.ntmps4
    go_wp2_with (first
      | (go_at_call 12; ((with_reducible refine (alive21_any _).mono ?_); rintro e w1 ⟨rfl, hb1⟩))
      | (go_at_call 16; ((with_reducible refine (T1.out _ _).mono ?_); rintro e w2 ⟨rfl, hb2⟩)))
    go_returns
    exact ⟨by simp, by (repeat' (first | (with_reducible exact Below.refl _ _) | (with_reducible refine bstep (by with_reducible assumption) ?_) | (with_reducible refine Below.alloc ?_ ?_ _) | (with_reducible refine Below.drew ?_) | (with_reducible refine below_drewN ?_ _) | (with_reducible refine Below.setCell ?_ ?_ _) | go_size))⟩
  by_cases a3 : H < 1
  · go_enter Try.func4, Try.ntmps4
    go_wp2_with (first
      | (go_at_call 12; ((with_reducible refine (alive21_any _).mono ?_); rintro e w1 ⟨rfl, hb1⟩))
      | (go_at_call 16; ((with_reducible refine (T1.out _ _).mono ?_); rintro e w2 ⟨rfl, hb2⟩)))
    go_returns
    exact ⟨by simp, by (repeat' (first | (with_reducible exact Below.refl _ _) | (with_reducible refine bstep (by with_reducible assumption) ?_) | (with_reducible refine Below.alloc ?_ ?_ _) | (with_reducible refine Below.drew ?_) | (with_reducible refine below_drewN ?_ _) | (with_reducible refine Below.setCell ?_ ?_ _) | go_size))⟩
  · have a4 : 64 < H := by have := HB.out; omega
    go_enter Try.func4, Try.ntmps4
    go_wp2_with (first
      | (go_at_call 12; ((with_reducible refine (alive21_any _).mono ?_); rintro e w1 ⟨rfl, hb1⟩))
      | (go_at_call 16; ((with_reducible refine (T1.out _ _).mono ?_); rintro e w2 ⟨rfl, hb2⟩)))
    go_returns
    exact ⟨by simp, by (repeat' (first | (with_reducible exact Below.refl _ _) | (with_reducible refine bstep (by with_reducible assumption) ?_) | (with_reducible refine Below.alloc ?_ ?_ _) | (with_reducible refine Below.drew ?_) | (with_reducible refine below_drewN ?_ _) | (with_reducible refine Below.setCell ?_ ?_ _) | go_size))⟩
set_option maxHeartbeats 8000000 in
theorem vtiles_yes (wn hn : Nat) (h1 : 1 ≤ wn) (h2 : wn ≤ 64) (h3 : 1 ≤ hn) (h4 : hn ≤ 64) (ps : List Int) (v : Value) (w : World) (hp : ps.length ≤ 2000) (hv : Ints w v ps) :
    Calls Try.prog 4 #[.int .i64 (wn : Int), .int .i64 (hn : Int), v] w fun e w' => e = .returned (.bool true) ∧ Below w.heap.size w w' := by
  have ok : am2 1 64 (wn : Int) (hn : Int) = true := am2_iff.2 (by omega)
  obtain ⟨T, hT, hgood, hnod, hlen⟩ := tiles_good wn hn h2 h4 ps
  have T1 := Lib.hid (fun u w h => tiles_all (wn : Int) (hn : Int) ps u w hp h)
  have ez : tlZ (wn : Int) (hn : Int) ps = fl T := by rw [tlZ, ok, if_pos rfl, hT]
  obtain ⟨N, hN⟩ : ∃ N, tlN (wn : Int) (hn : Int) = N := ⟨_, rfl⟩
  have hN2 : N ≤ 256 := by rw [← hN]; exact tlN_le _ _
  rw [hN, ok, ez] at T1
  obtain ⟨M, hM⟩ : ∃ M, wn * hn = M := ⟨_, rfl⟩
  have hM2 : M ≤ 4096 := by rw [← hM]; exact Nat.le_trans (Nat.mul_le_mul h2 h4) (by decide)
  have hMi : (wn : Int) * (hn : Int) = (M : Int) := by rw [← hM]; simp
  rw [hM] at hlen
  have wM : IntKind.i64.wrap ((wn : Int) * (hn : Int)) = (M : Int) := by rw [hMi]; exact IntWalk.i64_in _ (by omega)
  have HG := Lib.hid hgood
  have HND := Lib.hid hnod
  have HLN := Lib.hid hlen
  have HWM := Lib.hid wM
  obtain ⟨p, c, rfl, _⟩ := ints_hp hv
  obtain ⟨n, hl⟩ : ∃ n, ps.length = n := ⟨_, rfl⟩
  rw [hl] at hp hv ⊢
  have g1 : ¬ (2000 : Int) < (n : Int) := by omega
  have HV := Lib.hid hv
  clear hv hl hp hN hM hMi wM ez hT hgood hnod hlen ok
  go_enter Try.func4, Try.ntmps4
  go_wp2_with (first
    | (go_at_call 12; ((with_reducible refine (alive21_any _).mono ?_); rintro e w1 ⟨rfl, hb1⟩))
    | (go_at_call 16; ((with_reducible refine (T1.out _ _ (ints_later hb1 HV.out)).mono ?_); rintro e w2 ⟨pt, ct, rfl, ts, hb2⟩; have HB2 := Lib.hid (bstep hb2 hb1); have TS := Lib.hid ts; have s2 : w.heap.size ≤ w2.heap.size := HB2.out.size; clear hb1 hb2 ts))
    | (refine seen_new rfl rfl rfl rfl rfl _ _ rfl rfl rfl ?_))
  have hTN : T.length = N := by have h := tls_len TS.out; rw [fl_len] at h; omega
  go_loopg [10, 11] N (fun k n i wr => VtRel w2.heap.size w2.heap.size w2 N T k n i wr)
  case atStart => exact ⟨0, 0, by omega, rfl, rfl, rfl, rfl, seen_start _, by rw [World.size_alloc]; omega, (Below.refl _ _).alloc (Nat.le_refl _) _⟩
  case round =>
    obtain ⟨j, L, hj, rfl, rfl, rfl, hL, hS, hsz, hb⟩ := hrel
    have HL := Lib.hid hL
    have SW := Lib.hid hS
    have HB := Lib.hid hb
    clear hL hS hb
    by_cases hlt : j < N
    · obtain ⟨g, cap, e, hg, hl⟩ := tls_form TS.out (by omega)
      obtain ⟨rfl, rfl⟩ : pt = some ⟨g, 0, none⟩ ∧ ct = cap := by simpa using e
      obtain ⟨_, _, _, _, _, hc, _⟩ := tls_cell TS.out
      obtain ⟨tx, ty, tw, th, hmem, hfl, hPS, hPR⟩ := tile_facts T HND.out j (by omega)
      obtain ⟨q1, q2, q3, q4⟩ := HG.out _ hmem
      simp only at q1 q2 q3 q4
      have HCE := Lib.hid (show ∀ i, i < 4 → ∀ W, Below w2.heap.size w2 W → W.cell? ⟨g, j * 4 + i, none⟩ = some (.int .i64 ((fl1 (tx, ty, tw, th)).getD i 0)) from fun i hi W hW => by rw [hW.cell (p := ⟨g, j * 4 + i, none⟩) hl, hc (j * 4 + i) (by omega), hfl i hi])
      have x0 : wr.cell? ⟨g, j * 4, none⟩ = some (.int .i64 (tx : Int)) := HCE.out 0 (by omega) _ HB.out
      have x1 : wr.cell? ⟨g, j * 4 + 1, none⟩ = some (.int .i64 (ty : Int)) := HCE.out 1 (by omega) _ HB.out
      have hj0 : (0 : Int) ≤ (j : Int) := by omega
      have hj1 : (j : Int) < (N : Int) := by omega
      obtain ⟨D, hD⟩ : ∃ D, pixL (T.take j) = D := ⟨_, rfl⟩
      rw [hD] at HL SW hPS
      simp only [hD, HLN.out] at hPR
      have PR := Lib.hid hPR
      have PS := Lib.hid hPS
      clear e hc hfl hD hPR hPS hmem
      go_wp2_with fail
      go_loopg [10, 12] th (fun k n y wr => VyRel w2.heap.size w2.heap.size w2 (tx, ty, tw, th) D k n y wr)
      case atStart => exact ⟨0, L, ty, by omega, rfl, rfl, rfl, rfl, by simpa [rowD] using HL.out, by simpa [rowD] using SW.out, hsz, HB.out⟩
      case round =>
        obtain ⟨b, L2, Y, hb, rfl, hY, rfl, rfl, hL2, hS2, hsz2, hB2⟩ := hrel
        simp only at hb hY
        have HL2 := Lib.hid hL2
        have SW2 := Lib.hid hS2
        have HB2' := Lib.hid hB2
        have y1 : wr.cell? ⟨g, j * 4 + 1, none⟩ = some (.int .i64 (ty : Int)) := HCE.out 1 (by omega) _ hB2
        have y3 : wr.cell? ⟨g, j * 4 + 3, none⟩ = some (.int .i64 (th : Int)) := HCE.out 3 (by omega) _ hB2
        have y0 : wr.cell? ⟨g, j * 4, none⟩ = some (.int .i64 (tx : Int)) := HCE.out 0 (by omega) _ hB2
        have wYH : IntKind.i64.wrap ((ty : Int) + (th : Int)) = (ty : Int) + (th : Int) := IntWalk.i64_in _ (by omega)
        clear x0 x1 hL2 hS2 hB2 HL SW HB
        by_cases hlt2 : b < th
        · have hy1 : (Y : Int) < (ty : Int) + (th : Int) := by omega
          go_wp2_with fail
          go_quiet (fail)
          go_wp2_with fail
          have PR2 := Lib.hid (fun a ha => PR.out b a hlt2 ha)
          go_loopg [10, 13] tw (fun k n x wr => VxRel w2.heap.size w2.heap.size w2 (tx, ty, tw, th) (D ++ rowD (tx, ty, tw, th) b) b k n x wr)
          case atStart => exact ⟨0, L2, tx, by omega, rfl, rfl, rfl, rfl, by simpa [colD] using HL2.out, seen_drewN (by simpa [colD] using SW2.out) _, hsz2, below_drewN HB2'.out _⟩
          case round =>
            obtain ⟨a, L3, X, ha, rfl, hX, rfl, rfl, hL3, hS3, hsz3, hB3⟩ := hrel
            simp only at ha hX
            have z0 : wr.cell? ⟨g, j * 4, none⟩ = some (.int .i64 (tx : Int)) := HCE.out 0 (by omega) _ hB3
            have z2 : wr.cell? ⟨g, j * 4 + 2, none⟩ = some (.int .i64 (tw : Int)) := HCE.out 2 (by omega) _ hB3
            have wXW : IntKind.i64.wrap ((tx : Int) + (tw : Int)) = (tx : Int) + (tw : Int) := IntWalk.i64_in _ (by omega)
            have HL3 := Lib.hid hL3
            have SW3 := Lib.hid hS3
            have HB3 := Lib.hid hB3
            clear y0 y1 y3 HL2 SW2 HB2' wYH hL3 hS3 hB3
            by_cases hlt3 : a < tw
            · obtain ⟨hnew, hbnd⟩ := PR2.out a hlt3
              have eq1 : 64 * (ty + b) + (tx + a) = 64 * Y + X := by omega
              rw [eq1] at hnew
              have hq : 64 * Y + X < 4096 := by omega
              have cq : wr.cell? ⟨w2.heap.size, 64 * Y + X, none⟩ = some (.bool false) := by rw [SW3.out.1 _ hq, decide_eq_false hnew]
              have fq : wr.frozen? ⟨w2.heap.size, 64 * Y + X, none⟩ = false := SW3.out.2 _
              have hL4 : L3 + 1 ≤ 4096 := by have := HL3.out; omega
              have SN := Lib.hid (seen_next SW3.out hq)
              have eq2 : D ++ rowD (tx, ty, tw, th) b ++ colD (tx, ty, tw, th) b a ++ [64 * Y + X] = D ++ rowD (tx, ty, tw, th) b ++ colD (tx, ty, tw, th) b (a + 1) := by rw [colD_succ, ← List.append_assoc, ← eq1]
              have EQ2 := Lib.hid eq2
              have hx1 : (X : Int) < (tx : Int) + (tw : Int) := by omega
              have hx2 : ¬ (X : Int) < 0 := by omega
              have hx3 : ¬ (wn : Int) ≤ (X : Int) := by omega
              have hy2 : ¬ (Y : Int) < 0 := by omega
              have hy3 : ¬ (hn : Int) ≤ (Y : Int) := by omega
              clear hnew hbnd eq1 eq2
              go_wp2_with fail
              go_quiet (fail)
              go_wp2_with fail
              go_roundg (tw - (a + 1))
              case measure => omega
              case rel => exact ⟨a + 1, L3 + 1, X + 1, by show a + 1 ≤ tw; omega, rfl, by show tx + (a + 1) = X + 1; omega, by simp, by simp, by rw [← EQ2.out, List.length_append, HL3.out]; rfl, by rw [← EQ2.out]; exact SN.out, by rw [World.size_setCell]; exact hsz3, Below.setCell (below_drewN HB3.out _) (Nat.le_refl _) _⟩
            · have hx1 : ¬ (X : Int) < (tx : Int) + (tw : Int) := by omega
              obtain rfl : a = tw := by omega
              go_wp2_with fail
              go_quiet (fail)
              go_wp2_with fail
              go_roundg (th - (b + 1))
              case measure => omega
              case rel => exact ⟨b + 1, L3, Y + 1, by show b + 1 ≤ th; omega, rfl, by show ty + (b + 1) = Y + 1; omega, by simp, rfl, by rw [rowD_succ, ← List.append_assoc]; exact HL3.out, seen_drewN (by rw [rowD_succ, ← List.append_assoc]; exact SW3.out) _, hsz3, below_drewN HB3.out _⟩
        · have hy1 : ¬ (Y : Int) < (ty : Int) + (th : Int) := by omega
          go_wp2_with fail
          go_quiet (fail)
          go_wp2_with fail
          obtain rfl : b = th := by omega
          go_roundg (N - (j + 1))
          case measure => omega
          case rel => exact ⟨j + 1, L2, by omega, rfl, by simp, rfl, by rw [PS.out]; exact HL2.out, seen_drewN (by rw [PS.out]; exact SW2.out) _, hsz2, below_drewN HB2'.out _⟩
    · obtain rfl : j = N := by omega
      have hj1 : ¬ ((j : Int) < (j : Int)) := by omega
      have hLM : L = M := by rw [← HL.out, List.take_of_length_le (by omega)]; exact HLN.out
      subst hLM
      have wM := HWM.out
      go_wp2_with fail
      have HB' := HB.out
      have HB'' := HB2.out
      go_returns
      exact ⟨by simp, by (repeat' (first | (with_reducible exact Below.refl _ _) | (with_reducible refine bstep (by with_reducible assumption) ?_) | (with_reducible refine Below.alloc ?_ ?_ _) | (with_reducible refine Below.drew ?_) | (with_reducible refine below_drewN ?_ _) | (with_reducible refine Below.setCell ?_ ?_ _) | go_size))⟩
theorem viewTiles_walk (W : Int) (_ : I64 W) (H : Int) (_ : I64 H) (v : Value) (zs : List Int) (_ : ∀ z ∈ zs, I64 z) (w : World) (hv : Ints w v zs) :
    Calls Try.prog 4 #[.int .i64 W, .int .i64 H, v] w fun e w' => e = .returned (.bool true) ∧ Below w.heap.size w w' := by
  rcases Nat.lt_or_ge 2000 zs.length with h | h
  · exact vtiles_big W H zs v w h hv
  · cases ok : am2 1 64 W H
    · exact vtiles_no W H zs v w h hv ok
    · obtain ⟨⟨a1, a2⟩, a3, a4⟩ := am2_iff.1 ok
      obtain ⟨wn, rfl⟩ : ∃ wn : Nat, W = (wn : Int) := ⟨W.toNat, by omega⟩
      obtain ⟨hn, rfl⟩ : ∃ hn : Nat, H = (hn : Int) := ⟨H.toNat, by omega⟩
      exact vtiles_yes wn hn (by omega) (by omega) (by omega) (by omega) zs v w h hv
end Go.Proofs.Ytoalihdempcbjaa
