/- The law on the order of tiles, walked: for all sides and picks of 64 bits it answers true. -/
import Derived.Test.YtoalihdempcbjaaTileO
import Derived.Test.YtoalihdempcbjaaVAnswers
namespace Go.Proofs.Ytoalihdempcbjaa
open Go.RowKit
set_option maxRecDepth 1000000
set_option linter.unusedSimpArgs false
set_option linter.unusedVariables false
theorem ints_nil (w : World) : Ints w (.slice none 0 0) [] := .inl ⟨rfl, none, 0, rfl⟩
theorem ints_one {w : World} {b : Nat} {p : Int} (hb : b < w.heap.size) (h : w.cell? ⟨b, 0, none⟩ = some (.int .i64 p)) : Ints w (.slice (some ⟨b, 0, none⟩) 1 1) [p] :=
  .inr ⟨b, 0, 1, rfl, by simp, by simp, by decide, hb, fun j hj => by
    have : j = 0 := by simpa using hj
    subst this; exact h⟩
theorem eqT_ne {x0 x1 x2 x3 y0 y1 y2 y3 : Int} (h : x0 ≠ y0 ∨ x1 ≠ y1) : ∀ w : World, Sem.run Try.prog (Op.equalIn 10000 36 (.agg #[.int .i64 x0, .int .i64 x1, .int .i64 x2, .int .i64 x3]) (.agg #[.int .i64 y0, .int .i64 y1, .int .i64 y2, .int .i64 y3])) w = .ok false w := by
  intro w
  by_cases e : x0 = y0
  · subst e
    have e1 : ¬ x1 = y1 := by rcases h with h | h <;> simp_all
    go_simp
  · go_simp
def VoRel (K B : Nat) (w : World) (k : Nat) (i : Value) (wr : World) : Prop := ∃ j, j ≤ K ∧ k = K - j ∧ i = .int .i64 (j : Int) ∧ Below B w wr
set_option maxHeartbeats 6000000 in
theorem vorder_no (W H p : Int) (hno : am2 1 64 W H = false) (w : World) :
    Calls Try.prog 6 #[.int .i64 W, .int .i64 H, .int .i64 p] w fun e w' => e = .returned (.bool true) ∧ Below w.heap.size w w' := by
  have T1 := Lib.hid (fun u w => tiles_no W H hno u w)
  clear hno
  go_enter Try.func6, Try.ntmps6
  go_wp2_with (first
    | (go_at_call 12; ((with_reducible refine (alive21_any _).mono ?_); rintro e w1 ⟨rfl, hb1⟩))
    | (go_at_call 16; ((with_reducible refine (T1.out (.slice none 0 0) _).mono ?_); rintro e w2 ⟨rfl, hb2⟩; have s2 : w.heap.size ≤ w2.heap.size := (bstep hb2 hb1).size))
    | (go_at_call 16; ((with_reducible refine (T1.out _ _).mono ?_); rintro e w3 ⟨rfl, hb3⟩)))
  go_returns
  exact ⟨by simp, by (repeat' (first | (with_reducible exact Below.refl _ _) | (with_reducible refine bstep (by with_reducible assumption) ?_) | (with_reducible refine Below.alloc ?_ ?_ _) | (with_reducible refine Below.drew ?_) | (with_reducible refine below_drewN ?_ _) | (with_reducible refine Below.setCell ?_ ?_ _) | go_size))⟩
set_option maxHeartbeats 6000000 in
theorem vorder_yes (wn hn : Nat) (h1 : 1 ≤ wn) (h2 : wn ≤ 64) (h3 : 1 ≤ hn) (h4 : hn ≤ 64) (p : Int) (w : World) :
    Calls Try.prog 6 #[.int .i64 (wn : Int), .int .i64 (hn : Int), .int .i64 p] w fun e w' => e = .returned (.bool true) ∧ Below w.heap.size w w' := by
  have ok : am2 1 64 (wn : Int) (hn : Int) = true := am2_iff.2 (by omega)
  obtain ⟨A, B, K, hA, hB, hK, hBA, f0, flo, fhi, ford⟩ := order_good wn hn h1 h3 p
  have T1 := Lib.hid (fun u w h => tiles_all (wn : Int) (hn : Int) [] u w (by simp) h)
  have T2 := Lib.hid (fun u w h => tiles_all (wn : Int) (hn : Int) [p] u w (by simp) h)
  have ez : tlZ (wn : Int) (hn : Int) [] = fl A := by rw [tlZ, ok, if_pos rfl, hA]
  have ez2 : tlZ (wn : Int) (hn : Int) [p] = fl B := by rw [tlZ, ok, if_pos rfl, hB]
  obtain ⟨N, hN⟩ : ∃ N, tlN (wn : Int) (hn : Int) = N := ⟨_, rfl⟩
  have hN2 : N ≤ 256 := by rw [← hN]; exact tlN_le _ _
  rw [hN, ok, ez] at T1
  rw [hN, ok, ez2] at T2
  obtain ⟨fa, hfa⟩ : ∃ fa : Nat → Nat → Int, ∀ i j, fa i j = (fl A).getD (i * 4 + j) 0 := ⟨_, fun _ _ => rfl⟩
  simp only [← hfa] at f0 flo fhi ford
  have F0 := Lib.hid f0
  have FL := Lib.hid flo
  have FH := Lib.hid fhi
  have FO := Lib.hid ford
  have FA := Lib.hid hfa
  clear ok hA hB ez ez2 hN f0 flo fhi ford hfa
  have hsz0 : ∀ w1 : World, Below w.heap.size w w1 → w.heap.size ≤ w1.heap.size := fun w1 h => h.size
  go_enter Try.func6, Try.ntmps6
  go_wp2_with (first
    | (go_at_call 12; ((with_reducible refine (alive21_any _).mono ?_); rintro e w1 ⟨rfl, hb1⟩))
    | (go_at_call 16; ((with_reducible refine (T1.out (.slice none 0 0) _ (ints_nil _)).mono ?_); rintro e w2 ⟨pt, ct, rfl, ts, hb2⟩; have HB2 := Lib.hid (bstep hb2 hb1); have TS := Lib.hid ts; clear hb1 hb2 ts))
    | (go_at_call 16; ((with_reducible refine (T2.out _ _ (ints_one (lt_new rfl) (new_at rfl _ _ 0))).mono ?_); rintro e w3 ⟨pu, cu, rfl, us, hb3⟩; have HB3 := Lib.hid (bstep hb3 (HB2.out.alloc HB2.out.size _)); have US := Lib.hid us; have TS3 := Lib.hid (tls_below (tls_alloc TS.out _) hb3); have N0 : 0 < N := (by have h := tls_len TS.out; rw [fl_len] at h; omega); have N1 : ¬ ((N : Int) = 0) := (by omega); have N2 : ((N : Int) == 0) = false := beq_eq_false_iff_ne.mpr N1; clear hb3 us)))
  have hAN : A.length = N := by have h := tls_len TS3.out; rw [fl_len] at h; omega
  obtain ⟨g, cap, e, hg, hl⟩ := tls_form TS3.out N0
  obtain ⟨rfl, rfl⟩ : pt = some ⟨g, 0, none⟩ ∧ ct = cap := by simpa using e
  obtain ⟨g', cap', e', hg', hl'⟩ := tls_form US.out N0
  obtain ⟨rfl, rfl⟩ : pu = some ⟨g', 0, none⟩ ∧ cu = cap' := by simpa using e'
  obtain ⟨_, _, _, _, _, hca, _⟩ := tls_cell TS3.out
  obtain ⟨_, _, _, _, _, hcb, _⟩ := tls_cell US.out
  have CA := Lib.hid (show ∀ i j, i < N → j < 4 → ∀ W, Below w3.heap.size w3 W → W.cell? ⟨g, i * 4 + j, none⟩ = some (.int .i64 (fa i j)) from fun i j hi hj W hW => by rw [hW.cell (p := ⟨g, i * 4 + j, none⟩) hl, hca (i * 4 + j) (by omega), FA.out])
  have CB := Lib.hid (show ∀ o, o < N * 4 → ∀ W, Below w3.heap.size w3 W → W.cell? ⟨g', o, none⟩ = some (.int .i64 ((fl B).getD o 0)) from fun o ho W hW => by rw [hW.cell (p := ⟨g', o, none⟩) hl', hcb o ho])
  rw [hAN] at hK
  have FO := Lib.hid (show ∀ i j, i < j → j < N → fa i 1 < fa j 1 ∨ fa i 1 = fa j 1 ∧ fa i 0 < fa j 0 from fun i j hi hj => FO.out i j hi (by omega))
  have FH := Lib.hid (show ∀ i, K < i → i < N → ∀ j, j < 4 → (fl B).getD (i * 4 + j) 0 = fa i j from fun i hi hj => FH.out i hi (by omega))
  clear e e' hca hcb FA TS TS3 US T1 T2 hsz0
  go_loopg [11] K (fun k i wr => VoRel K w3.heap.size w3 k i wr)
  case atStart => exact ⟨0, by omega, rfl, rfl, Below.refl _ _⟩
  case round =>
    obtain ⟨j, hj, rfl, rfl, hb⟩ := hrel
    have HB := Lib.hid hb
    have a0 : wr.cell? ⟨g, j * 4, none⟩ = some (.int .i64 (fa j 0)) := CA.out j 0 (by omega) (by omega) _ hb
    have a1 := CA.out j 1 (by omega) (by omega) _ hb
    have a2 := CA.out j 2 (by omega) (by omega) _ hb
    have a3 := CA.out j 3 (by omega) (by omega) _ hb
    have b0 := CB.out 0 (by omega) _ hb
    have b1 := CB.out 1 (by omega) _ hb
    have b2 := CB.out 2 (by omega) _ hb
    have b3 := CB.out 3 (by omega) _ hb
    rw [F0.out 0 (by omega)] at b0
    rw [F0.out 1 (by omega)] at b1
    rw [F0.out 2 (by omega)] at b2
    rw [F0.out 3 (by omega)] at b3
    have hj0 : (0 : Int) ≤ (j : Int) := by omega
    have hj1 : (j : Int) < (N : Int) := by omega
    have hj2 : j < N := by omega
    have n0 : (0 : Int) < (N : Int) := by omega
    clear hb
    by_cases hlt : j < K
    · have hne : fa j 0 ≠ fa K 0 ∨ fa j 1 ≠ fa K 1 := by
        rcases FO.out j K hlt hK with h | ⟨_, h⟩
        · exact .inr (by omega)
        · exact .inl (by omega)
      generalize fa j 0 = x0 at *
      generalize fa j 1 = x1 at *
      generalize fa j 2 = x2 at *
      generalize fa j 3 = x3 at *
      generalize fa K 0 = y0 at *
      generalize fa K 1 = y1 at *
      generalize fa K 2 = y2 at *
      generalize fa K 3 = y3 at *
      have EQ := eqT_ne (x2 := x2) (x3 := x3) (y2 := y2) (y3 := y3) hne
      clear hne
      go_wp2_with fail
      go_quiet (fail)
      go_wp2_with fail
      go_roundg (K - (j + 1))
      case measure => omega
      case rel => exact ⟨j + 1, by omega, rfl, by simp, below_drewN HB.out _⟩
    · obtain rfl : j = K := by omega
      go_wp2_with fail
      go_quiet (fail)
      go_wp2_with fail
      clear a0 a1 a2 a3 b0 b1 b2 b3 hj0 hj1 hj2
      go_loopg [12] N (fun k i wr => VoRel N w3.heap.size w3 k i wr)
      case atStart => exact ⟨0, by omega, rfl, rfl, below_drewN HB.out _⟩
      case round =>
        obtain ⟨i, hi, rfl, rfl, hb⟩ := hrel
        have HB' := Lib.hid hb
        by_cases hin : i < N
        · have c0 : wr.cell? ⟨g, i * 4, none⟩ = some (.int .i64 (fa i 0)) := CA.out i 0 hin (by omega) _ hb
          have c1 := CA.out i 1 hin (by omega) _ hb
          have c2 := CA.out i 2 hin (by omega) _ hb
          have c3 := CA.out i 3 hin (by omega) _ hb
          have hi0 : (0 : Int) ≤ (i : Int) := by omega
          have hi1 : (i : Int) < (N : Int) := by omega
          by_cases hz : i = 0
          · have z0 : ¬ (0 : Int) < (i : Int) := by omega
            have hiK : i ≤ j := by omega
            have z1 : decide (0 < i) = false := by simp [hz]
            have z2 : decide ((0 : Int) < (i : Int)) = false := by simp [hz]
            clear hz
            rcases Nat.lt_trichotomy i j with hk | hk | hk
            · have k0 : decide (i < j) = true := decide_eq_true (by omega)
              have k1 : decide (j < i) = false := decide_eq_false (by omega)
              have k2 : decide ((i : Int) < (j : Int)) = true := decide_eq_true (by omega)
              have k3 : decide ((j : Int) < (i : Int)) = false := decide_eq_false (by omega)
              obtain ⟨q, hq⟩ : ∃ q, q = i + 1 := ⟨_, rfl⟩
              have wq : IntKind.i64.wrap ((i : Int) + 1) = (q : Int) := by rw [IntWalk.i64_in _ (by omega)]; omega
              have q0 : (0 : Int) ≤ (q : Int) := by omega
              have q1 : (q : Int) < (N : Int) := by omega
              have d0 := CB.out (q * 4) (by omega) _ hb
              have d1 := CB.out (q * 4 + 1) (by omega) _ hb
              have d2 := CB.out (q * 4 + 2) (by omega) _ hb
              have d3 := CB.out (q * 4 + 3) (by omega) _ hb
              have f0 := FL.out i (by omega) 0 (by omega)
              have f1 := FL.out i (by omega) 1 (by omega)
              have f2 := FL.out i (by omega) 2 (by omega)
              have f3 := FL.out i (by omega) 3 (by omega)
              rw [← hq] at f0 f1 f2 f3
              rw [Nat.add_zero] at f0
              rw [f0] at d0
              rw [f1] at d1
              rw [f2] at d2
              rw [f3] at d3
              have HQ := Lib.hid hq
              clear f0 f1 f2 f3 hq
              clear hb
              generalize fa i 0 = x0 at *
              generalize fa i 1 = x1 at *
              generalize fa i 2 = x2 at *
              generalize fa i 3 = x3 at *
              go_wp2_with fail
              go_quiet (fail)
              go_wp2_with fail
              go_roundg (N - (i + 1))
              case measure => omega
              case rel => exact ⟨i + 1, by omega, rfl, by rw [HQ.out], below_drewN HB'.out _⟩
            · have k0 : decide (i < j) = false := decide_eq_false (by omega)
              have k1 : decide (j < i) = false := decide_eq_false (by omega)
              have k2 : decide ((i : Int) < (j : Int)) = false := decide_eq_false (by omega)
              have k3 : decide ((j : Int) < (i : Int)) = false := decide_eq_false (by omega)
              clear hk
              clear hb
              generalize fa i 0 = x0 at *
              generalize fa i 1 = x1 at *
              generalize fa i 2 = x2 at *
              generalize fa i 3 = x3 at *
              go_wp2_with fail
              go_quiet (fail)
              go_wp2_with fail
              go_roundg (N - (i + 1))
              case measure => omega
              case rel => exact ⟨i + 1, by omega, rfl, by simp, below_drewN HB'.out _⟩
            · have k0 : decide (i < j) = false := decide_eq_false (by omega)
              have k1 : decide (j < i) = true := decide_eq_true (by omega)
              have k2 : decide ((i : Int) < (j : Int)) = false := decide_eq_false (by omega)
              have k3 : decide ((j : Int) < (i : Int)) = true := decide_eq_true (by omega)
              have d0 := CB.out (i * 4) (by omega) _ hb
              have d1 := CB.out (i * 4 + 1) (by omega) _ hb
              have d2 := CB.out (i * 4 + 2) (by omega) _ hb
              have d3 := CB.out (i * 4 + 3) (by omega) _ hb
              have f0 := FH.out i (by omega) hin 0 (by omega)
              have f1 := FH.out i (by omega) hin 1 (by omega)
              have f2 := FH.out i (by omega) hin 2 (by omega)
              have f3 := FH.out i (by omega) hin 3 (by omega)
              rw [Nat.add_zero] at f0
              rw [f0] at d0
              rw [f1] at d1
              rw [f2] at d2
              rw [f3] at d3
              clear f0 f1 f2 f3
              clear hb
              generalize fa i 0 = x0 at *
              generalize fa i 1 = x1 at *
              generalize fa i 2 = x2 at *
              generalize fa i 3 = x3 at *
              go_wp2_with fail
              go_quiet (fail)
              go_wp2_with fail
              go_roundg (N - (i + 1))
              case measure => omega
              case rel => exact ⟨i + 1, by omega, rfl, by simp, below_drewN HB'.out _⟩
          · have z0 : (0 : Int) < (i : Int) := by omega
            have z1 : 0 < i := by omega
            have z2 : decide (0 < i) = true := decide_eq_true (by omega)
            obtain ⟨m, hm⟩ : ∃ m, i = m + 1 := ⟨i - 1, by omega⟩
            have wm : IntKind.i64.wrap ((i : Int) - 1) = (m : Int) := by rw [IntWalk.i64_in _ (by omega)]; omega
            have m0 : (0 : Int) ≤ (m : Int) := by omega
            have m1 : (m : Int) < (N : Int) := by omega
            have e0 : wr.cell? ⟨g, m * 4, none⟩ = some (.int .i64 (fa m 0)) := CA.out m 0 (by omega) (by omega) _ hb
            have e1 := CA.out m 1 (by omega) (by omega) _ hb
            have ho := FO.out m i (by omega) hin
            clear hm
            try clear hz
            generalize fa m 0 = u0 at *
            generalize fa m 1 = u1 at *
            rcases ho with ho | ⟨ho, ho2⟩
            · have p0 : ¬ fa i 1 < u1 := by omega
              have p3 : decide (fa i 1 < u1) = false := decide_eq_false (by omega)
              have p4 : decide (fa i 1 = u1) = false := decide_eq_false (by omega)
              have p1 : ¬ fa i 1 = u1 := by omega
              have p2 : (fa i 1 == u1) = false := beq_eq_false_iff_ne.mpr p1
              clear ho
              rcases Nat.lt_trichotomy i j with hk | hk | hk
              · have k0 : decide (i < j) = true := decide_eq_true (by omega)
                have k1 : decide (j < i) = false := decide_eq_false (by omega)
                have k2 : decide ((i : Int) < (j : Int)) = true := decide_eq_true (by omega)
                have k3 : decide ((j : Int) < (i : Int)) = false := decide_eq_false (by omega)
                obtain ⟨q, hq⟩ : ∃ q, q = i + 1 := ⟨_, rfl⟩
                have wq : IntKind.i64.wrap ((i : Int) + 1) = (q : Int) := by rw [IntWalk.i64_in _ (by omega)]; omega
                have q0 : (0 : Int) ≤ (q : Int) := by omega
                have q1 : (q : Int) < (N : Int) := by omega
                have d0 := CB.out (q * 4) (by omega) _ hb
                have d1 := CB.out (q * 4 + 1) (by omega) _ hb
                have d2 := CB.out (q * 4 + 2) (by omega) _ hb
                have d3 := CB.out (q * 4 + 3) (by omega) _ hb
                have f0 := FL.out i (by omega) 0 (by omega)
                have f1 := FL.out i (by omega) 1 (by omega)
                have f2 := FL.out i (by omega) 2 (by omega)
                have f3 := FL.out i (by omega) 3 (by omega)
                rw [← hq] at f0 f1 f2 f3
                rw [Nat.add_zero] at f0
                rw [f0] at d0
                rw [f1] at d1
                rw [f2] at d2
                rw [f3] at d3
                have HQ := Lib.hid hq
                clear f0 f1 f2 f3 hq
                clear hb
                generalize fa i 0 = x0 at *
                generalize fa i 1 = x1 at *
                generalize fa i 2 = x2 at *
                generalize fa i 3 = x3 at *
                go_wp2_with fail
                go_quiet (fail)
                go_wp2_with fail
                go_roundg (N - (i + 1))
                case measure => omega
                case rel => exact ⟨i + 1, by omega, rfl, by rw [HQ.out], below_drewN HB'.out _⟩
              · have k0 : decide (i < j) = false := decide_eq_false (by omega)
                have k1 : decide (j < i) = false := decide_eq_false (by omega)
                have k2 : decide ((i : Int) < (j : Int)) = false := decide_eq_false (by omega)
                have k3 : decide ((j : Int) < (i : Int)) = false := decide_eq_false (by omega)
                clear hk
                clear hb
                generalize fa i 0 = x0 at *
                generalize fa i 1 = x1 at *
                generalize fa i 2 = x2 at *
                generalize fa i 3 = x3 at *
                go_wp2_with fail
                go_quiet (fail)
                go_wp2_with fail
                go_roundg (N - (i + 1))
                case measure => omega
                case rel => exact ⟨i + 1, by omega, rfl, by simp, below_drewN HB'.out _⟩
              · have k0 : decide (i < j) = false := decide_eq_false (by omega)
                have k1 : decide (j < i) = true := decide_eq_true (by omega)
                have k2 : decide ((i : Int) < (j : Int)) = false := decide_eq_false (by omega)
                have k3 : decide ((j : Int) < (i : Int)) = true := decide_eq_true (by omega)
                have d0 := CB.out (i * 4) (by omega) _ hb
                have d1 := CB.out (i * 4 + 1) (by omega) _ hb
                have d2 := CB.out (i * 4 + 2) (by omega) _ hb
                have d3 := CB.out (i * 4 + 3) (by omega) _ hb
                have f0 := FH.out i (by omega) hin 0 (by omega)
                have f1 := FH.out i (by omega) hin 1 (by omega)
                have f2 := FH.out i (by omega) hin 2 (by omega)
                have f3 := FH.out i (by omega) hin 3 (by omega)
                rw [Nat.add_zero] at f0
                rw [f0] at d0
                rw [f1] at d1
                rw [f2] at d2
                rw [f3] at d3
                clear f0 f1 f2 f3
                clear hb
                generalize fa i 0 = x0 at *
                generalize fa i 1 = x1 at *
                generalize fa i 2 = x2 at *
                generalize fa i 3 = x3 at *
                go_wp2_with fail
                go_quiet (fail)
                go_wp2_with fail
                go_roundg (N - (i + 1))
                case measure => omega
                case rel => exact ⟨i + 1, by omega, rfl, by simp, below_drewN HB'.out _⟩
            · have p0 : ¬ fa i 1 < fa i 1 := by omega
              have p2 : ¬ fa i 0 ≤ u0 := by omega
              have p3 : decide (fa i 0 ≤ u0) = false := decide_eq_false (by omega)
              have p4 : decide (fa i 1 < fa i 1) = false := by simp
              subst ho
              clear ho2
              rcases Nat.lt_trichotomy i j with hk | hk | hk
              · have k0 : decide (i < j) = true := decide_eq_true (by omega)
                have k1 : decide (j < i) = false := decide_eq_false (by omega)
                have k2 : decide ((i : Int) < (j : Int)) = true := decide_eq_true (by omega)
                have k3 : decide ((j : Int) < (i : Int)) = false := decide_eq_false (by omega)
                obtain ⟨q, hq⟩ : ∃ q, q = i + 1 := ⟨_, rfl⟩
                have wq : IntKind.i64.wrap ((i : Int) + 1) = (q : Int) := by rw [IntWalk.i64_in _ (by omega)]; omega
                have q0 : (0 : Int) ≤ (q : Int) := by omega
                have q1 : (q : Int) < (N : Int) := by omega
                have d0 := CB.out (q * 4) (by omega) _ hb
                have d1 := CB.out (q * 4 + 1) (by omega) _ hb
                have d2 := CB.out (q * 4 + 2) (by omega) _ hb
                have d3 := CB.out (q * 4 + 3) (by omega) _ hb
                have f0 := FL.out i (by omega) 0 (by omega)
                have f1 := FL.out i (by omega) 1 (by omega)
                have f2 := FL.out i (by omega) 2 (by omega)
                have f3 := FL.out i (by omega) 3 (by omega)
                rw [← hq] at f0 f1 f2 f3
                rw [Nat.add_zero] at f0
                rw [f0] at d0
                rw [f1] at d1
                rw [f2] at d2
                rw [f3] at d3
                have HQ := Lib.hid hq
                clear f0 f1 f2 f3 hq
                clear hb
                generalize fa i 0 = x0 at *
                generalize fa i 1 = x1 at *
                generalize fa i 2 = x2 at *
                generalize fa i 3 = x3 at *
                go_wp2_with fail
                go_quiet (fail)
                go_wp2_with fail
                go_roundg (N - (i + 1))
                case measure => omega
                case rel => exact ⟨i + 1, by omega, rfl, by rw [HQ.out], below_drewN HB'.out _⟩
              · have k0 : decide (i < j) = false := decide_eq_false (by omega)
                have k1 : decide (j < i) = false := decide_eq_false (by omega)
                have k2 : decide ((i : Int) < (j : Int)) = false := decide_eq_false (by omega)
                have k3 : decide ((j : Int) < (i : Int)) = false := decide_eq_false (by omega)
                clear hk
                clear hb
                generalize fa i 0 = x0 at *
                generalize fa i 1 = x1 at *
                generalize fa i 2 = x2 at *
                generalize fa i 3 = x3 at *
                go_wp2_with fail
                go_quiet (fail)
                go_wp2_with fail
                go_roundg (N - (i + 1))
                case measure => omega
                case rel => exact ⟨i + 1, by omega, rfl, by simp, below_drewN HB'.out _⟩
              · have k0 : decide (i < j) = false := decide_eq_false (by omega)
                have k1 : decide (j < i) = true := decide_eq_true (by omega)
                have k2 : decide ((i : Int) < (j : Int)) = false := decide_eq_false (by omega)
                have k3 : decide ((j : Int) < (i : Int)) = true := decide_eq_true (by omega)
                have d0 := CB.out (i * 4) (by omega) _ hb
                have d1 := CB.out (i * 4 + 1) (by omega) _ hb
                have d2 := CB.out (i * 4 + 2) (by omega) _ hb
                have d3 := CB.out (i * 4 + 3) (by omega) _ hb
                have f0 := FH.out i (by omega) hin 0 (by omega)
                have f1 := FH.out i (by omega) hin 1 (by omega)
                have f2 := FH.out i (by omega) hin 2 (by omega)
                have f3 := FH.out i (by omega) hin 3 (by omega)
                rw [Nat.add_zero] at f0
                rw [f0] at d0
                rw [f1] at d1
                rw [f2] at d2
                rw [f3] at d3
                clear f0 f1 f2 f3
                clear hb
                generalize fa i 0 = x0 at *
                generalize fa i 1 = x1 at *
                generalize fa i 2 = x2 at *
                generalize fa i 3 = x3 at *
                go_wp2_with fail
                go_quiet (fail)
                go_wp2_with fail
                go_roundg (N - (i + 1))
                case measure => omega
                case rel => exact ⟨i + 1, by omega, rfl, by simp, below_drewN HB'.out _⟩
        · obtain rfl : i = N := by omega
          have hj1 : ¬ ((i : Int) < (i : Int)) := by omega
          have hj2 : (j : Int) < (i : Int) := by omega
          clear hb
          go_wp2_with fail
          have HB5 := HB'.out
          have HB6 := HB3.out
          go_returns
          exact ⟨by simp, by (repeat' (first | (with_reducible exact Below.refl _ _) | (with_reducible refine bstep (by with_reducible assumption) ?_) | (with_reducible refine Below.alloc ?_ ?_ _) | (with_reducible refine Below.drew ?_) | (with_reducible refine below_drewN ?_ _) | (with_reducible refine Below.setCell ?_ ?_ _) | go_size))⟩
theorem viewOrder_walk (W : Int) (_ : I64 W) (H : Int) (_ : I64 H) (p : Int) (_ : I64 p) (w : World) :
    Calls Try.prog 6 #[.int .i64 W, .int .i64 H, .int .i64 p] w fun e w' => e = .returned (.bool true) ∧ Below w.heap.size w w' := by
  cases ok : am2 1 64 W H
  · exact vorder_no W H p ok w
  · obtain ⟨⟨a1, a2⟩, a3, a4⟩ := am2_iff.1 ok
    obtain ⟨wn, rfl⟩ : ∃ wn : Nat, W = (wn : Int) := ⟨W.toNat, by omega⟩
    obtain ⟨hn, rfl⟩ : ∃ hn : Nat, H = (hn : Int) := ⟨H.toNat, by omega⟩
    exact vorder_yes wn hn (by omega) (by omega) (by omega) (by omega) p w
end Go.Proofs.Ytoalihdempcbjaa
