/- The law on rays' steps, walked: for all cameras and pixels of 64 bits it answers true. -/
import Derived.Test.YtoalihdempcbjaaAlive21
import Derived.Test.YtoalihdempcbjaaRay
namespace Go.Proofs.Ytoalihdempcbjaa
open Go.RowKit
set_option maxRecDepth 100000
set_option linter.unusedSimpArgs false
set_option linter.unusedVariables false
theorem rayd_a (f r d cg x y a : Int) : rayd f r d cg x y a 0 = rayd f r d cg x y 0 0 + r * a := by
  unfold rayd; simp only [Int.mul_add, Int.mul_zero, Int.add_zero]; omega
theorem rayd_b (f r d cg x y b : Int) : rayd f r d cg x y 0 b = rayd f r d cg x y 0 0 + d * b := by
  unfold rayd; simp only [Int.mul_add, Int.mul_zero, Int.add_zero]; omega
theorem rayd_x (f r d cg x y : Int) : rayd f r d cg (x + 1) y 0 0 = rayd f r d cg x y 0 0 + r * cg := by
  unfold rayd; simp only [Int.mul_add, Int.add_mul, Int.one_mul, Int.mul_zero, Int.add_zero]; omega
theorem rayok_facts {ax ay az fx fy fz rx ry rz dx dy dz cw ch cg cd x y : Int} (h : rayok ax ay az fx fy fz rx ry rz dx dy dz cw ch cg cd x y 0 0 = true) : ((1 ≤ cw ∧ cw ≤ 64) ∧ (1 ≤ cg ∧ cg ≤ 4) ∧ (0 ≤ x ∧ x ≤ cw - 1)) ∧ (0 ≤ y ∧ y ≤ 63) ∧ (inB fx fy fz 1048576 = true ∧ inB rx ry rz 1024 = true ∧ inB dx dy dz 1024 = true) ∧ (∀ a, 0 ≤ a → a < cg → rayok ax ay az fx fy fz rx ry rz dx dy dz cw ch cg cd x y a 0 = true ∧ rayok ax ay az fx fy fz rx ry rz dx dy dz cw ch cg cd x y 0 a = true) ∧ rayok ax ay az fx fy fz rx ry rz dx dy dz cw ch cg cd (x + 1) y 0 0 = decide (x + 1 < cw) := by
  simp only [rayok, Bool.and_eq_true] at h
  obtain ⟨⟨⟨⟨⟨⟨⟨⟨h1, h2⟩, h3⟩, h4⟩, h5⟩, h6⟩, h7⟩, h8⟩, h9⟩ := h
  have g1 := am2_iff.1 h1
  have g2 := am1_iff.1 h2
  have g7 := am1_iff.1 h7
  have g8 := am1_iff.1 h8
  refine ⟨⟨by omega, by omega, by omega⟩, by omega, ⟨h4, h5, h6⟩, fun a ha hb => ⟨?_, ?_⟩, ?_⟩
  · simp only [rayok, Bool.and_eq_true]; exact ⟨⟨⟨⟨⟨⟨⟨⟨h1, h2⟩, h3⟩, h4⟩, h5⟩, h6⟩, h7⟩, h8⟩, am2_iff.2 (by omega)⟩
  · simp only [rayok, Bool.and_eq_true]; exact ⟨⟨⟨⟨⟨⟨⟨⟨h1, h2⟩, h3⟩, h4⟩, h5⟩, h6⟩, h7⟩, h8⟩, am2_iff.2 (by omega)⟩
  · simp only [rayok, h1, h2, h3, h4, h5, h6, h8, h9, Bool.true_and, Bool.and_true]
    rw [Bool.eq_iff_iff, am1_iff, decide_eq_true_eq]; omega
theorem rayd_le {f r d cg x y : Int} (hf : -1048576 ≤ f ∧ f ≤ 1048576) (hr : -1024 ≤ r ∧ r ≤ 1024) (hd : -1024 ≤ d ∧ d ≤ 1024) (hg : 1 ≤ cg ∧ cg ≤ 4) (hx : 0 ≤ x ∧ x ≤ 63) (hy : 0 ≤ y ∧ y ≤ 63) : -2097152 ≤ rayd f r d cg x y 0 0 ∧ rayd f r d cg x y 0 0 ≤ 2097152 := by
  have a := mul_le (a := x) (b := cg) (A := 63) (B := 4) hx.1 hx.2 (by omega) hg.2
  have b := mul_le (a := y) (b := cg) (A := 63) (B := 4) hy.1 hy.2 (by omega) hg.2
  have c := mul_in (a := r) (b := x * cg) hr (by omega)
  have e := mul_in (a := d) (b := y * cg) hd (by omega)
  unfold rayd
  rw [Int.add_zero, Int.add_zero]
  omega
theorem rscale_v (x y z k p q r : Int) (e1 : x * k = p) (e2 : y * k = q) (e3 : z * k = r) (h1 : -1099511627776 ≤ p ∧ p ≤ 1099511627776) (h2 : -1099511627776 ≤ q ∧ q ≤ 1099511627776) (h3 : -1099511627776 ≤ r ∧ r ≤ 1099511627776) (w : World) :
    Calls Try.prog 20 #[V3 x y z, .int .i64 k] w fun e w' => e = .returned (V3 p q r) ∧ Below w.heap.size w w' := by
  subst e1 e2 e3
  have := rscale_any x y z k w
  rw [w64 (x := x * k) (by omega) (by omega), w64 (x := y * k) (by omega) (by omega), w64 (x := z * k) (by omega) (by omega)] at this
  exact this
theorem radd_v (x y z a b c p q r : Int) (e1 : x + a = p) (e2 : y + b = q) (e3 : z + c = r) (h1 : -1152921504606846976 ≤ p ∧ p ≤ 1152921504606846976) (h2 : -1152921504606846976 ≤ q ∧ q ≤ 1152921504606846976) (h3 : -1152921504606846976 ≤ r ∧ r ≤ 1152921504606846976) (w : World) :
    Calls Try.prog 19 #[V3 x y z, V3 a b c] w fun e w' => e = .returned (V3 p q r) ∧ Below w.heap.size w w' := by
  subst e1 e2 e3
  have := radd_any x y z a b c w
  rw [w64 (x := x + a) (by omega) (by omega), w64 (x := y + b) (by omega) (by omega), w64 (x := z + c) (by omega) (by omega)] at this
  exact this
def StC (S T E F : Nat) (cc cd ce cf : Array Value) (w w' : World) : Prop := (∀ o, w'.cell? ⟨S, o, none⟩ = cc[o]?) ∧ (∀ o, w'.cell? ⟨T, o, none⟩ = cd[o]?) ∧ (∀ o, w'.cell? ⟨E, o, none⟩ = ce[o]?) ∧ (∀ o, w'.cell? ⟨F, o, none⟩ = cf[o]?) ∧ Below w.heap.size w w'
def StRel (G S T : Nat) (cc cd : Array Value) (w : World) (k : Nat) (i : Value) (wr : World) : Prop :=
  ∃ j, j ≤ G ∧ k = G - j ∧ i = .int .i64 (j : Int) ∧ (∀ o, wr.cell? ⟨S, o, none⟩ = cc[o]?) ∧ (∀ o, wr.cell? ⟨T, o, none⟩ = cd[o]?) ∧ Below S w wr
set_option maxHeartbeats 8000000 in
theorem steps_no (ax ay az fx fy fz rx ry rz dx dy dz cw ch cg cd x y : Int) (hok : rayok ax ay az fx fy fz rx ry rz dx dy dz cw ch cg cd x y 0 0 = false) (w : World) :
    Calls Try.prog 5 #[Cam ax ay az fx fy fz rx ry rz dx dy dz cw ch cg cd, .int .i64 x, .int .i64 y] w fun e w' => e = .returned (.bool true) ∧ Below w.heap.size w w' := by
  have R := Lib.hid (ray_no ax ay az fx fy fz rx ry rz dx dy dz cw ch cg cd x y 0 0 hok)
  clear hok
  go_enter Try.func5, Try.ntmps5
  go_wp2_with (first
    | (go_at_call 12; ((with_reducible refine (alive21_any _).mono ?_); rintro e w1 ⟨rfl, hb1⟩; have C1 : ∀ o, w1.cell? ⟨w.heap.size, o, none⟩ = (#[.int .i64 ax, .int .i64 ay, .int .i64 az, .int .i64 fx, .int .i64 fy, .int .i64 fz, .int .i64 rx, .int .i64 ry, .int .i64 rz, .int .i64 dx, .int .i64 dy, .int .i64 dz, .int .i64 cw, .int .i64 ch, .int .i64 cg, .int .i64 cd] : Array Value)[o]? := blk_later (by simp) hb1 (by (repeat (first | (with_reducible assumption) | (focus ((with_reducible refine new_at ?_ _ _); (repeat (first | (with_reducible rfl) | (with_reducible refine sz1 ?_))); done)) | (with_reducible refine blk_alloc (by simp) _ ?_) | (with_reducible refine blk_drew ?_))))))
    | (go_at_call 13; ((with_reducible refine (R.out _).mono ?_); rintro e w2 ⟨rfl, hb2⟩; have s2 : w.heap.size < w2.heap.size := blk_lt (by simp) (blk_later (by simp) hb2 C1))))
  go_returns
  exact ⟨by simp, by (repeat' (first | (with_reducible exact Below.refl _ _) | (with_reducible refine bstep (by with_reducible assumption) ?_) | (with_reducible refine Below.alloc ?_ ?_ _) | (with_reducible refine Below.drew ?_) | (with_reducible refine below_drewN ?_ _) | (with_reducible refine Below.setCell ?_ ?_ _) | go_size))⟩
set_option maxHeartbeats 8000000 in
theorem steps_yes (ax ay az fx fy fz rx ry rz dx dy dz cw ch cg cd x y : Int) (hok : rayok ax ay az fx fy fz rx ry rz dx dy dz cw ch cg cd x y 0 0 = true) (w : World) :
    Calls Try.prog 5 #[Cam ax ay az fx fy fz rx ry rz dx dy dz cw ch cg cd, .int .i64 x, .int .i64 y] w fun e w' => e = .returned (.bool true) ∧ Below w.heap.size w w' := by
  obtain ⟨⟨fw, fg, fx'⟩, fy', ⟨i4, i5, i6⟩, hmore, hnext⟩ := rayok_facts hok
  rw [inB_iff (by omega) (by omega)] at i4 i5 i6
  have l0 := rayd_le (f := fx) (r := rx) (d := dx) (cg := cg) (x := x) (y := y) i4.1 i5.1 i6.1 fg (by omega) fy'
  have l1 := rayd_le (f := fy) (r := ry) (d := dy) (cg := cg) (x := x) (y := y) i4.2.1 i5.2.1 i6.2.1 fg (by omega) fy'
  have l2 := rayd_le (f := fz) (r := rz) (d := dz) (cg := cg) (x := x) (y := y) i4.2.2 i5.2.2 i6.2.2 fg (by omega) fy'
  have R0 := ray_yes ax ay az fx fy fz rx ry rz dx dy dz cw ch cg cd x y 0 0 hok
  have RN := ray_yes ax ay az fx fy fz rx ry rz dx dy dz cw ch cg cd (x + 1) y 0 0
  have RX := ray_no ax ay az fx fy fz rx ry rz dx dy dz cw ch cg cd (x + 1) y 0 0
  have RA : ∀ a : Int, 0 ≤ a → a < cg → ∀ w, Calls Try.prog 13 #[Cam ax ay az fx fy fz rx ry rz dx dy dz cw ch cg cd, .int .i64 x, .int .i64 y, .int .i64 a, .int .i64 0] w fun e w' => e = .returned (.tuple #[V3 ax ay az, V3 (rayd fx rx dx cg x y 0 0 + rx * a) (rayd fy ry dy cg x y 0 0 + ry * a) (rayd fz rz dz cg x y 0 0 + rz * a), .bool true]) ∧ Below w.heap.size w w' := by
    intro a h0 h1 w
    have t := ray_yes ax ay az fx fy fz rx ry rz dx dy dz cw ch cg cd x y a 0 (hmore a h0 h1).1 w
    rw [rayd_a fx rx dx cg x y a, rayd_a fy ry dy cg x y a, rayd_a fz rz dz cg x y a] at t
    exact t
  have RB : ∀ a : Int, 0 ≤ a → a < cg → ∀ w, Calls Try.prog 13 #[Cam ax ay az fx fy fz rx ry rz dx dy dz cw ch cg cd, .int .i64 x, .int .i64 y, .int .i64 0, .int .i64 a] w fun e w' => e = .returned (.tuple #[V3 ax ay az, V3 (rayd fx rx dx cg x y 0 0 + dx * a) (rayd fy ry dy cg x y 0 0 + dy * a) (rayd fz rz dz cg x y 0 0 + dz * a), .bool true]) ∧ Below w.heap.size w w' := by
    intro a h0 h1 w
    have t := ray_yes ax ay az fx fy fz rx ry rz dx dy dz cw ch cg cd x y 0 a (hmore a h0 h1).2 w
    rw [rayd_b fx rx dx cg x y a, rayd_b fy ry dy cg x y a, rayd_b fz rz dz cg x y a] at t
    exact t
  rw [rayd_x, rayd_x, rayd_x, hnext] at RN
  rw [hnext] at RX
  obtain ⟨g0, e0⟩ : ∃ t, rayd fx rx dx cg x y 0 0 = t := ⟨_, rfl⟩
  obtain ⟨g1, e1⟩ : ∃ t, rayd fy ry dy cg x y 0 0 = t := ⟨_, rfl⟩
  obtain ⟨g2, e2⟩ : ∃ t, rayd fz rz dz cg x y 0 0 = t := ⟨_, rfl⟩
  rw [e0] at l0 RN
  rw [e1] at l1 RN
  rw [e2] at l2 RN
  rw [e0, e1, e2] at R0
  simp only [e0, e1, e2] at RA RB
  have R0 := Lib.hid R0
  have RA := Lib.hid RA
  have RB := Lib.hid RB
  obtain ⟨G, hG⟩ : ∃ G : Nat, (G : Int) = cg := ⟨cg.toNat, by omega⟩
  have nx : IntKind.i64.wrap (x + 1) = x + 1 := IntWalk.i64_in _ (by omega)
  clear hmore hnext hok e0 e1 e2
  go_enter Try.func5, Try.ntmps5
  go_wp2_with (first
    | (go_at_call 12; ((with_reducible refine (alive21_any _).mono ?_); rintro e w1 ⟨rfl, hb1⟩; have C1 : ∀ o, w1.cell? ⟨w.heap.size, o, none⟩ = (#[.int .i64 ax, .int .i64 ay, .int .i64 az, .int .i64 fx, .int .i64 fy, .int .i64 fz, .int .i64 rx, .int .i64 ry, .int .i64 rz, .int .i64 dx, .int .i64 dy, .int .i64 dz, .int .i64 cw, .int .i64 ch, .int .i64 cg, .int .i64 cd] : Array Value)[o]? := blk_later (by simp) hb1 (by (repeat (first | (with_reducible assumption) | (focus ((with_reducible refine new_at ?_ _ _); (repeat (first | (with_reducible rfl) | (with_reducible refine sz1 ?_))); done)) | (with_reducible refine blk_alloc (by simp) _ ?_) | (with_reducible refine blk_drew ?_))))))
    | (go_at_call 13; ((with_reducible refine (R0.out _).mono ?_); rintro e w2 ⟨rfl, hb2⟩; have C2 := blk_later (by simp) hb2 C1; have s2 : w.heap.size < w2.heap.size := blk_lt (by simp) C2)))
  go_loopg [10] G (fun k i wr => StRel G w.heap.size (w2.heap.size + 1) (#[.int .i64 ax, .int .i64 ay, .int .i64 az, .int .i64 fx, .int .i64 fy, .int .i64 fz, .int .i64 rx, .int .i64 ry, .int .i64 rz, .int .i64 dx, .int .i64 dy, .int .i64 dz, .int .i64 cw, .int .i64 ch, .int .i64 cg, .int .i64 cd] : Array Value) (#[.int .i64 g0, .int .i64 g1, .int .i64 g2] : Array Value) w k i wr)
  case atStart => exact ⟨0, by omega, by omega, rfl, blk_alloc (by simp) _ (blk_alloc (by simp) _ C2), by (repeat (first | (with_reducible assumption) | (focus ((with_reducible refine new_at ?_ _ _); (repeat (first | (with_reducible rfl) | (with_reducible refine sz1 ?_))); done)) | (with_reducible refine blk_alloc (by simp) _ ?_) | (with_reducible refine blk_drew ?_))), by (repeat' (first | (with_reducible exact Below.refl _ _) | (with_reducible refine bstep (by with_reducible assumption) ?_) | (with_reducible refine Below.alloc ?_ ?_ _) | (with_reducible refine Below.drew ?_) | (with_reducible refine below_drewN ?_ _) | (with_reducible refine Below.setCell ?_ ?_ _) | go_size))⟩
  case round =>
    obtain ⟨j, hj, rfl, rfl, C3, D3, hb⟩ := hrel
    have HB := Lib.hid hb
    have s3 : w.heap.size < wr.heap.size := blk_lt (by simp) C3
    have s3d : w2.heap.size + 1 < wr.heap.size := blk_lt (by simp) D3
    clear hb C2
    by_cases hjg : j < G
    · have hj0 : (0 : Int) ≤ (j : Int) := by omega
      have hj1 : (j : Int) < cg := by omega
      have A := Lib.hid (RA.out (j : Int) hj0 hj1)
      have B := Lib.hid (RB.out (j : Int) hj0 hj1)
      have b0 := mul_in (a := rx) (b := (j : Int)) i5.1 (by omega)
      have c0 := mul_in (a := dx) (b := (j : Int)) i6.1 (by omega)
      obtain ⟨u0, eu0⟩ : ∃ t, rx * (j : Int) = t := ⟨_, rfl⟩
      obtain ⟨t0, et0⟩ : ∃ t, dx * (j : Int) = t := ⟨_, rfl⟩
      have b1 := mul_in (a := ry) (b := (j : Int)) i5.2.1 (by omega)
      have c1 := mul_in (a := dy) (b := (j : Int)) i6.2.1 (by omega)
      obtain ⟨u1, eu1⟩ : ∃ t, ry * (j : Int) = t := ⟨_, rfl⟩
      obtain ⟨t1, et1⟩ : ∃ t, dy * (j : Int) = t := ⟨_, rfl⟩
      have b2 := mul_in (a := rz) (b := (j : Int)) i5.2.2 (by omega)
      have c2 := mul_in (a := dz) (b := (j : Int)) i6.2.2 (by omega)
      obtain ⟨u2, eu2⟩ : ∃ t, rz * (j : Int) = t := ⟨_, rfl⟩
      obtain ⟨t2, et2⟩ : ∃ t, dz * (j : Int) = t := ⟨_, rfl⟩
      rw [eu0, eu1, eu2] at A
      rw [et0, et1, et2] at B
      rw [eu0] at b0
      rw [et0] at c0
      rw [eu1] at b1
      rw [et1] at c1
      rw [eu2] at b2
      rw [et2] at c2
      obtain ⟨p0, ep0⟩ : ∃ t, g0 + u0 = t := ⟨_, rfl⟩
      obtain ⟨q0, eq0⟩ : ∃ t, g0 + t0 = t := ⟨_, rfl⟩
      obtain ⟨p1, ep1⟩ : ∃ t, g1 + u1 = t := ⟨_, rfl⟩
      obtain ⟨q1, eq1⟩ : ∃ t, g1 + t1 = t := ⟨_, rfl⟩
      obtain ⟨p2, ep2⟩ : ∃ t, g2 + u2 = t := ⟨_, rfl⟩
      obtain ⟨q2, eq2⟩ : ∃ t, g2 + t2 = t := ⟨_, rfl⟩
      rw [ep0, ep1, ep2] at A
      rw [eq0, eq1, eq2] at B
      have SA := Lib.hid (rscale_v rx ry rz (j : Int) u0 u1 u2 eu0 eu1 eu2 (by omega) (by omega) (by omega))
      have SB := Lib.hid (rscale_v dx dy dz (j : Int) t0 t1 t2 et0 et1 et2 (by omega) (by omega) (by omega))
      have AA := Lib.hid (radd_v g0 g1 g2 u0 u1 u2 p0 p1 p2 ep0 ep1 ep2 (by omega) (by omega) (by omega))
      have AB := Lib.hid (radd_v g0 g1 g2 t0 t1 t2 q0 q1 q2 eq0 eq1 eq2 (by omega) (by omega) (by omega))
      clear b0 b1 b2 c0 c1 c2 eu0 eu1 eu2 et0 et1 et2 ep0 ep1 ep2 eq0 eq1 eq2
      go_wp2_with (first
        | (go_at_call 13; ((with_reducible refine (A.out _).mono ?_); rintro e v1 ⟨rfl, gb1⟩; have C4 := blk_later (by simp) gb1 C3; have D4 := blk_later (by simp) gb1 D3; have s4 : w.heap.size < v1.heap.size := blk_lt (by simp) C4; have s4d : w2.heap.size + 1 < v1.heap.size := blk_lt (by simp) D4; clear C3 D3))
        | (go_at_call 13; ((with_reducible refine (B.out _).mono ?_); rintro e v2 ⟨rfl, gb2⟩; have C5 := blk_later (by simp) gb2 (blk_alloc (by simp) _ (blk_alloc (by simp) _ C4)); have D5 := blk_later (by simp) gb2 (blk_alloc (by simp) _ (blk_alloc (by simp) _ D4)); have E5 : ∀ o, v2.cell? ⟨v1.heap.size + 1, o, none⟩ = (#[.int .i64 p0, .int .i64 p1, .int .i64 p2] : Array Value)[o]? := blk_later (by simp) gb2 (by (repeat (first | (with_reducible assumption) | (focus ((with_reducible refine new_at ?_ _ _); (repeat (first | (with_reducible rfl) | (with_reducible refine sz1 ?_))); done)) | (with_reducible refine blk_alloc (by simp) _ ?_) | (with_reducible refine blk_drew ?_)))); have s5 : w.heap.size < v2.heap.size := blk_lt (by simp) C5; clear C4 D4)))
      have HB' := HB.out
      refine region_quiet (StC w.heap.size (w2.heap.size + 1) (v1.heap.size + 1) (v2.heap.size + 1) (#[.int .i64 ax, .int .i64 ay, .int .i64 az, .int .i64 fx, .int .i64 fy, .int .i64 fz, .int .i64 rx, .int .i64 ry, .int .i64 rz, .int .i64 dx, .int .i64 dy, .int .i64 dz, .int .i64 cw, .int .i64 ch, .int .i64 cg, .int .i64 cd] : Array Value) (#[.int .i64 g0, .int .i64 g1, .int .i64 g2] : Array Value) (#[.int .i64 p0, .int .i64 p1, .int .i64 p2] : Array Value) (#[.int .i64 q0, .int .i64 q1, .int .i64 q2] : Array Value) w) (by kernel_rfl) (by kernel_rfl) ?_ ?_
      · (try dsimp only); (exact ⟨blk_alloc (by simp) _ (blk_alloc (by simp) _ C5), blk_alloc (by simp) _ (blk_alloc (by simp) _ D5), blk_alloc (by simp) _ (blk_alloc (by simp) _ E5), by (repeat (first | (with_reducible assumption) | (focus ((with_reducible refine new_at ?_ _ _); (repeat (first | (with_reducible rfl) | (with_reducible refine sz1 ?_))); done)) | (with_reducible refine blk_alloc (by simp) _ ?_) | (with_reducible refine blk_drew ?_))), by (repeat' (first | (with_reducible exact Below.refl _ _) | (with_reducible refine bstep (by with_reducible assumption) ?_) | (with_reducible refine Below.alloc ?_ ?_ _) | (with_reducible refine Below.drew ?_) | (with_reducible refine below_drewN ?_ _) | (with_reducible refine Below.setCell ?_ ?_ _) | go_size))⟩)
      with_reducible refine q_want ?_ ?_ (fun wo hSw => ?_) ?_
      rotate_left
      · rfl
      · obtain ⟨k1, k2, k3, k4, k5⟩ := id hSw; go_simp; (try with_reducible rfl)
      try simp only [Act.put, List.setIfInBounds_toArray, List.set_cons_zero, List.set_cons_succ]
      with_reducible refine q_want ?_ ?_ (fun wo hSw => ?_) ?_
      rotate_left
      · rfl
      · obtain ⟨k1, k2, k3, k4, k5⟩ := id hSw; go_simp; (try with_reducible rfl)
      try simp only [Act.put, List.setIfInBounds_toArray, List.set_cons_zero, List.set_cons_succ]
      with_reducible refine q_want ?_ ?_ (fun wo hSw => ?_) ?_
      rotate_left
      · rfl
      · obtain ⟨k1, k2, k3, k4, k5⟩ := id hSw; go_simp; (try with_reducible rfl)
      try simp only [Act.put, List.setIfInBounds_toArray, List.set_cons_zero, List.set_cons_succ]
      with_reducible refine q_want ?_ ?_ (fun wo hSw => ?_) ?_
      rotate_left
      · rfl
      · obtain ⟨k1, k2, k3, k4, k5⟩ := id hSw; go_simp; (try with_reducible rfl)
      try simp only [Act.put, List.setIfInBounds_toArray, List.set_cons_zero, List.set_cons_succ]
      with_reducible refine q_want ?_ ?_ (fun wo hSw => ?_) ?_
      rotate_left
      · rfl
      · obtain ⟨k1, k2, k3, k4, k5⟩ := id hSw; go_simp; (try with_reducible rfl)
      try simp only [Act.put, List.setIfInBounds_toArray, List.set_cons_zero, List.set_cons_succ]
      with_reducible refine q_want ?_ ?_ (fun wo hSw => ?_) ?_
      rotate_left
      · rfl
      · obtain ⟨k1, k2, k3, k4, k5⟩ := id hSw; go_simp; (try with_reducible rfl)
      try simp only [Act.put, List.setIfInBounds_toArray, List.set_cons_zero, List.set_cons_succ]
      with_reducible refine q_want ?_ ?_ (fun wo hSw => ?_) ?_
      rotate_left
      · rfl
      · obtain ⟨k1, k2, k3, k4, k5⟩ := id hSw; go_simp; (try with_reducible rfl)
      try simp only [Act.put, List.setIfInBounds_toArray, List.set_cons_zero, List.set_cons_succ]
      with_reducible refine q_want ?_ ?_ (fun wo hSw => ?_) ?_
      rotate_left
      · rfl
      · obtain ⟨k1, k2, k3, k4, k5⟩ := id hSw; go_simp; (try with_reducible rfl)
      try simp only [Act.put, List.setIfInBounds_toArray, List.set_cons_zero, List.set_cons_succ]
      with_reducible refine q_want ?_ ?_ (fun wo hSw => ?_) ?_
      rotate_left
      · rfl
      · obtain ⟨k1, k2, k3, k4, k5⟩ := id hSw; go_simp; (try with_reducible rfl)
      try simp only [Act.put, List.setIfInBounds_toArray, List.set_cons_zero, List.set_cons_succ]
      with_reducible refine q_want ?_ ?_ (fun wo hSw => ?_) ?_
      rotate_left
      · rfl
      · obtain ⟨k1, k2, k3, k4, k5⟩ := id hSw; go_simp; (try with_reducible rfl)
      try simp only [Act.put, List.setIfInBounds_toArray, List.set_cons_zero, List.set_cons_succ]
      with_reducible refine q_want ?_ ?_ (fun wo hSw => ?_) ?_
      rotate_left
      · rfl
      · obtain ⟨k1, k2, k3, k4, k5⟩ := id hSw; go_simp; (try with_reducible rfl)
      try simp only [Act.put, List.setIfInBounds_toArray, List.set_cons_zero, List.set_cons_succ]
      with_reducible refine q_want ?_ ?_ (fun wo hSw => ?_) ?_
      rotate_left
      · rfl
      · obtain ⟨k1, k2, k3, k4, k5⟩ := id hSw; go_simp; (try with_reducible rfl)
      try simp only [Act.put, List.setIfInBounds_toArray, List.set_cons_zero, List.set_cons_succ]
      with_reducible refine q_want (V3 u0 u1 u2) ?_ (fun wo hSw => ?_) ?_
      · rfl
      · obtain ⟨k1, k2, k3, k4, k5⟩ := id hSw; go_simp; (go_at_call 20; ((with_reducible refine (SA.out _).mono ?_); rintro e w9 ⟨rfl, hb9⟩; exact ⟨rfl, blk_later (by simp) hb9 k1, blk_later (by simp) hb9 k2, blk_later (by simp) hb9 k3, blk_later (by simp) hb9 k4, bstep hb9 k5⟩))
      try simp only [Act.put, List.setIfInBounds_toArray, List.set_cons_zero, List.set_cons_succ]
      with_reducible refine q_want (V3 p0 p1 p2) ?_ (fun wo hSw => ?_) ?_
      · rfl
      · obtain ⟨k1, k2, k3, k4, k5⟩ := id hSw; go_simp; (go_at_call 19; ((with_reducible refine (AA.out _).mono ?_); rintro e w9 ⟨rfl, hb9⟩; exact ⟨rfl, blk_later (by simp) hb9 k1, blk_later (by simp) hb9 k2, blk_later (by simp) hb9 k3, blk_later (by simp) hb9 k4, bstep hb9 k5⟩))
      try simp only [Act.put, List.setIfInBounds_toArray, List.set_cons_zero, List.set_cons_succ]
      with_reducible refine q_want ?_ ?_ (fun wo hSw => ?_) ?_
      rotate_left
      · rfl
      · obtain ⟨k1, k2, k3, k4, k5⟩ := id hSw; go_simp; (try with_reducible rfl)
      try simp only [Act.put, List.setIfInBounds_toArray, List.set_cons_zero, List.set_cons_succ]
      with_reducible refine q_want ?_ ?_ (fun wo hSw => ?_) ?_
      rotate_left
      · rfl
      · obtain ⟨k1, k2, k3, k4, k5⟩ := id hSw; go_simp; (try with_reducible rfl)
      try simp only [Act.put, List.setIfInBounds_toArray, List.set_cons_zero, List.set_cons_succ]
      with_reducible refine q_want ?_ ?_ (fun wo hSw => ?_) ?_
      rotate_left
      · rfl
      · obtain ⟨k1, k2, k3, k4, k5⟩ := id hSw; go_simp; (try with_reducible rfl)
      try simp only [Act.put, List.setIfInBounds_toArray, List.set_cons_zero, List.set_cons_succ]
      with_reducible refine q_want ?_ ?_ (fun wo hSw => ?_) ?_
      rotate_left
      · rfl
      · obtain ⟨k1, k2, k3, k4, k5⟩ := id hSw; go_simp; (try with_reducible rfl)
      try simp only [Act.put, List.setIfInBounds_toArray, List.set_cons_zero, List.set_cons_succ]
      with_reducible refine q_want ?_ ?_ (fun wo hSw => ?_) ?_
      rotate_left
      · rfl
      · obtain ⟨k1, k2, k3, k4, k5⟩ := id hSw; go_simp; (try with_reducible rfl)
      try simp only [Act.put, List.setIfInBounds_toArray, List.set_cons_zero, List.set_cons_succ]
      with_reducible refine q_want ?_ ?_ (fun wo hSw => ?_) ?_
      rotate_left
      · rfl
      · obtain ⟨k1, k2, k3, k4, k5⟩ := id hSw; go_simp; (try with_reducible rfl)
      try simp only [Act.put, List.setIfInBounds_toArray, List.set_cons_zero, List.set_cons_succ]
      with_reducible refine q_want ?_ ?_ (fun wo hSw => ?_) ?_
      rotate_left
      · rfl
      · obtain ⟨k1, k2, k3, k4, k5⟩ := id hSw; go_simp; (try with_reducible rfl)
      try simp only [Act.put, List.setIfInBounds_toArray, List.set_cons_zero, List.set_cons_succ]
      with_reducible refine q_want ?_ ?_ (fun wo hSw => ?_) ?_
      rotate_left
      · rfl
      · obtain ⟨k1, k2, k3, k4, k5⟩ := id hSw; go_simp; (try with_reducible rfl)
      try simp only [Act.put, List.setIfInBounds_toArray, List.set_cons_zero, List.set_cons_succ]
      with_reducible refine q_want (V3 t0 t1 t2) ?_ (fun wo hSw => ?_) ?_
      · rfl
      · obtain ⟨k1, k2, k3, k4, k5⟩ := id hSw; go_simp; (go_at_call 20; ((with_reducible refine (SB.out _).mono ?_); rintro e w9 ⟨rfl, hb9⟩; exact ⟨rfl, blk_later (by simp) hb9 k1, blk_later (by simp) hb9 k2, blk_later (by simp) hb9 k3, blk_later (by simp) hb9 k4, bstep hb9 k5⟩))
      try simp only [Act.put, List.setIfInBounds_toArray, List.set_cons_zero, List.set_cons_succ]
      with_reducible refine q_want (V3 q0 q1 q2) ?_ (fun wo hSw => ?_) ?_
      · rfl
      · obtain ⟨k1, k2, k3, k4, k5⟩ := id hSw; go_simp; (go_at_call 19; ((with_reducible refine (AB.out _).mono ?_); rintro e w9 ⟨rfl, hb9⟩; exact ⟨rfl, blk_later (by simp) hb9 k1, blk_later (by simp) hb9 k2, blk_later (by simp) hb9 k3, blk_later (by simp) hb9 k4, bstep hb9 k5⟩))
      try simp only [Act.put, List.setIfInBounds_toArray, List.set_cons_zero, List.set_cons_succ]
      with_reducible refine q_want ?_ ?_ (fun wo hSw => ?_) ?_
      rotate_left
      · rfl
      · obtain ⟨k1, k2, k3, k4, k5⟩ := id hSw; go_simp; (try with_reducible rfl)
      try simp only [Act.put, List.setIfInBounds_toArray, List.set_cons_zero, List.set_cons_succ]
      with_reducible refine q_want ?_ ?_ (fun wo hSw => ?_) ?_
      rotate_left
      · rfl
      · obtain ⟨k1, k2, k3, k4, k5⟩ := id hSw; go_simp; (try with_reducible rfl)
      try simp only [Act.put, List.setIfInBounds_toArray, List.set_cons_zero, List.set_cons_succ]
      with_reducible refine wpQuiet_nil ?_
      intro wq hSq
      obtain ⟨C6, D6, _, _, hB⟩ := hSq
      have HB6 := Lib.hid hB
      clear hB
      go_wp2_with fail
      go_roundg (G - (j + 1))
      case measure => omega
      case rel => exact ⟨j + 1, by omega, rfl, by simp, C6, D6, HB6.out⟩
    · obtain rfl : j = G := by omega
      have hj1 : ¬ (j : Int) < cg := by omega
      by_cases hn : x + 1 < cw
      · have dn : decide (x + 1 < cw) = true := decide_eq_true hn
        have N := Lib.hid (RN dn)
        have b0 := mul_in (a := rx) (b := cg) i5.1 (by omega)
        obtain ⟨u0, eu0⟩ : ∃ t, rx * cg = t := ⟨_, rfl⟩
        have b1 := mul_in (a := ry) (b := cg) i5.2.1 (by omega)
        obtain ⟨u1, eu1⟩ : ∃ t, ry * cg = t := ⟨_, rfl⟩
        have b2 := mul_in (a := rz) (b := cg) i5.2.2 (by omega)
        obtain ⟨u2, eu2⟩ : ∃ t, rz * cg = t := ⟨_, rfl⟩
        rw [eu0, eu1, eu2] at N
        rw [eu0] at b0
        rw [eu1] at b1
        rw [eu2] at b2
        obtain ⟨p0, ep0⟩ : ∃ t, g0 + u0 = t := ⟨_, rfl⟩
        obtain ⟨p1, ep1⟩ : ∃ t, g1 + u1 = t := ⟨_, rfl⟩
        obtain ⟨p2, ep2⟩ : ∃ t, g2 + u2 = t := ⟨_, rfl⟩
        rw [ep0, ep1, ep2] at N
        have SA := Lib.hid (rscale_v rx ry rz cg u0 u1 u2 eu0 eu1 eu2 (by omega) (by omega) (by omega))
        have AA := Lib.hid (radd_v g0 g1 g2 u0 u1 u2 p0 p1 p2 ep0 ep1 ep2 (by omega) (by omega) (by omega))
        clear b0 b1 b2 eu0 eu1 eu2 ep0 ep1 ep2
        go_wp2_with (go_at_call 13; ((with_reducible refine (N.out _).mono ?_); rintro e v1 ⟨rfl, gb1⟩; have C4 := blk_later (by simp) gb1 C3; have D4 := blk_later (by simp) gb1 D3; have s4 : w.heap.size < v1.heap.size := blk_lt (by simp) C4; have s4d : w2.heap.size + 1 < v1.heap.size := blk_lt (by simp) D4; clear C3 D3))
        have HB' := HB.out
        refine region_quiet (StC w.heap.size (w2.heap.size + 1) (v1.heap.size + 1) (v1.heap.size + 1) (#[.int .i64 ax, .int .i64 ay, .int .i64 az, .int .i64 fx, .int .i64 fy, .int .i64 fz, .int .i64 rx, .int .i64 ry, .int .i64 rz, .int .i64 dx, .int .i64 dy, .int .i64 dz, .int .i64 cw, .int .i64 ch, .int .i64 cg, .int .i64 cd] : Array Value) (#[.int .i64 g0, .int .i64 g1, .int .i64 g2] : Array Value) (#[.int .i64 p0, .int .i64 p1, .int .i64 p2] : Array Value) (#[.int .i64 p0, .int .i64 p1, .int .i64 p2] : Array Value) w) (by kernel_rfl) (by kernel_rfl) ?_ ?_
        · (try dsimp only); (exact ⟨blk_alloc (by simp) _ (blk_alloc (by simp) _ C4), blk_alloc (by simp) _ (blk_alloc (by simp) _ D4), by (repeat (first | (with_reducible assumption) | (focus ((with_reducible refine new_at ?_ _ _); (repeat (first | (with_reducible rfl) | (with_reducible refine sz1 ?_))); done)) | (with_reducible refine blk_alloc (by simp) _ ?_) | (with_reducible refine blk_drew ?_))), by (repeat (first | (with_reducible assumption) | (focus ((with_reducible refine new_at ?_ _ _); (repeat (first | (with_reducible rfl) | (with_reducible refine sz1 ?_))); done)) | (with_reducible refine blk_alloc (by simp) _ ?_) | (with_reducible refine blk_drew ?_))), by (repeat' (first | (with_reducible exact Below.refl _ _) | (with_reducible refine bstep (by with_reducible assumption) ?_) | (with_reducible refine Below.alloc ?_ ?_ _) | (with_reducible refine Below.drew ?_) | (with_reducible refine below_drewN ?_ _) | (with_reducible refine Below.setCell ?_ ?_ _) | go_size))⟩)
        with_reducible refine q_want ?_ ?_ (fun wo hSw => ?_) ?_
        rotate_left
        · rfl
        · obtain ⟨k1, k2, k3, k4, k5⟩ := id hSw; go_simp; (try with_reducible rfl)
        try simp only [Act.put, List.setIfInBounds_toArray, List.set_cons_zero, List.set_cons_succ]
        with_reducible refine q_want ?_ ?_ (fun wo hSw => ?_) ?_
        rotate_left
        · rfl
        · obtain ⟨k1, k2, k3, k4, k5⟩ := id hSw; go_simp; (try with_reducible rfl)
        try simp only [Act.put, List.setIfInBounds_toArray, List.set_cons_zero, List.set_cons_succ]
        with_reducible refine q_want ?_ ?_ (fun wo hSw => ?_) ?_
        rotate_left
        · rfl
        · obtain ⟨k1, k2, k3, k4, k5⟩ := id hSw; go_simp; (try with_reducible rfl)
        try simp only [Act.put, List.setIfInBounds_toArray, List.set_cons_zero, List.set_cons_succ]
        with_reducible refine q_want ?_ ?_ (fun wo hSw => ?_) ?_
        rotate_left
        · rfl
        · obtain ⟨k1, k2, k3, k4, k5⟩ := id hSw; go_simp; (try with_reducible rfl)
        try simp only [Act.put, List.setIfInBounds_toArray, List.set_cons_zero, List.set_cons_succ]
        with_reducible refine q_want ?_ ?_ (fun wo hSw => ?_) ?_
        rotate_left
        · rfl
        · obtain ⟨k1, k2, k3, k4, k5⟩ := id hSw; go_simp; (try with_reducible rfl)
        try simp only [Act.put, List.setIfInBounds_toArray, List.set_cons_zero, List.set_cons_succ]
        with_reducible refine q_want ?_ ?_ (fun wo hSw => ?_) ?_
        rotate_left
        · rfl
        · obtain ⟨k1, k2, k3, k4, k5⟩ := id hSw; go_simp; (try with_reducible rfl)
        try simp only [Act.put, List.setIfInBounds_toArray, List.set_cons_zero, List.set_cons_succ]
        with_reducible refine q_want ?_ ?_ (fun wo hSw => ?_) ?_
        rotate_left
        · rfl
        · obtain ⟨k1, k2, k3, k4, k5⟩ := id hSw; go_simp; (try with_reducible rfl)
        try simp only [Act.put, List.setIfInBounds_toArray, List.set_cons_zero, List.set_cons_succ]
        with_reducible refine q_want ?_ ?_ (fun wo hSw => ?_) ?_
        rotate_left
        · rfl
        · obtain ⟨k1, k2, k3, k4, k5⟩ := id hSw; go_simp; (try with_reducible rfl)
        try simp only [Act.put, List.setIfInBounds_toArray, List.set_cons_zero, List.set_cons_succ]
        with_reducible refine q_want ?_ ?_ (fun wo hSw => ?_) ?_
        rotate_left
        · rfl
        · obtain ⟨k1, k2, k3, k4, k5⟩ := id hSw; go_simp; (try with_reducible rfl)
        try simp only [Act.put, List.setIfInBounds_toArray, List.set_cons_zero, List.set_cons_succ]
        with_reducible refine q_want (V3 u0 u1 u2) ?_ (fun wo hSw => ?_) ?_
        · rfl
        · obtain ⟨k1, k2, k3, k4, k5⟩ := id hSw; go_simp; (go_at_call 20; ((with_reducible refine (SA.out _).mono ?_); rintro e w9 ⟨rfl, hb9⟩; exact ⟨rfl, blk_later (by simp) hb9 k1, blk_later (by simp) hb9 k2, blk_later (by simp) hb9 k3, blk_later (by simp) hb9 k4, bstep hb9 k5⟩))
        try simp only [Act.put, List.setIfInBounds_toArray, List.set_cons_zero, List.set_cons_succ]
        with_reducible refine q_want (V3 p0 p1 p2) ?_ (fun wo hSw => ?_) ?_
        · rfl
        · obtain ⟨k1, k2, k3, k4, k5⟩ := id hSw; go_simp; (go_at_call 19; ((with_reducible refine (AA.out _).mono ?_); rintro e w9 ⟨rfl, hb9⟩; exact ⟨rfl, blk_later (by simp) hb9 k1, blk_later (by simp) hb9 k2, blk_later (by simp) hb9 k3, blk_later (by simp) hb9 k4, bstep hb9 k5⟩))
        try simp only [Act.put, List.setIfInBounds_toArray, List.set_cons_zero, List.set_cons_succ]
        with_reducible refine q_want ?_ ?_ (fun wo hSw => ?_) ?_
        rotate_left
        · rfl
        · obtain ⟨k1, k2, k3, k4, k5⟩ := id hSw; go_simp; (try with_reducible rfl)
        try simp only [Act.put, List.setIfInBounds_toArray, List.set_cons_zero, List.set_cons_succ]
        with_reducible refine q_want ?_ ?_ (fun wo hSw => ?_) ?_
        rotate_left
        · rfl
        · obtain ⟨k1, k2, k3, k4, k5⟩ := id hSw; go_simp; (try with_reducible rfl)
        try simp only [Act.put, List.setIfInBounds_toArray, List.set_cons_zero, List.set_cons_succ]
        with_reducible refine q_want ?_ ?_ (fun wo hSw => ?_) ?_
        rotate_left
        · rfl
        · obtain ⟨k1, k2, k3, k4, k5⟩ := id hSw; go_simp; (try with_reducible rfl)
        try simp only [Act.put, List.setIfInBounds_toArray, List.set_cons_zero, List.set_cons_succ]
        with_reducible refine wpQuiet_nil ?_
        intro wq hSq
        obtain ⟨_, _, _, _, hB⟩ := hSq
        have HB6 := Lib.hid hB
        clear hB
        go_wp2_with fail
        have HB7 := HB6.out
        go_returns
        exact ⟨by simp, by (repeat' (first | (with_reducible exact Below.refl _ _) | (with_reducible refine bstep (by with_reducible assumption) ?_) | (with_reducible refine Below.alloc ?_ ?_ _) | (with_reducible refine Below.drew ?_) | (with_reducible refine below_drewN ?_ _) | (with_reducible refine Below.setCell ?_ ?_ _) | go_size))⟩
      · have dn : decide (x + 1 < cw) = false := decide_eq_false hn
        have N := Lib.hid (RX dn)
        go_wp2_with (go_at_call 13; ((with_reducible refine (N.out _).mono ?_); rintro e v1 ⟨rfl, gb1⟩; have C4 := blk_later (by simp) gb1 C3; have D4 := blk_later (by simp) gb1 D3; have s4 : w.heap.size < v1.heap.size := blk_lt (by simp) C4; have s4d : w2.heap.size + 1 < v1.heap.size := blk_lt (by simp) D4; clear C3 D3))
        have HB' := HB.out
        refine region_quiet (StC w.heap.size (w2.heap.size + 1) (w2.heap.size + 1) (w2.heap.size + 1) (#[.int .i64 ax, .int .i64 ay, .int .i64 az, .int .i64 fx, .int .i64 fy, .int .i64 fz, .int .i64 rx, .int .i64 ry, .int .i64 rz, .int .i64 dx, .int .i64 dy, .int .i64 dz, .int .i64 cw, .int .i64 ch, .int .i64 cg, .int .i64 cd] : Array Value) (#[.int .i64 g0, .int .i64 g1, .int .i64 g2] : Array Value) (#[.int .i64 g0, .int .i64 g1, .int .i64 g2] : Array Value) (#[.int .i64 g0, .int .i64 g1, .int .i64 g2] : Array Value) w) (by kernel_rfl) (by kernel_rfl) ?_ ?_
        · (try dsimp only); (exact ⟨blk_alloc (by simp) _ (blk_alloc (by simp) _ C4), blk_alloc (by simp) _ (blk_alloc (by simp) _ D4), blk_alloc (by simp) _ (blk_alloc (by simp) _ D4), blk_alloc (by simp) _ (blk_alloc (by simp) _ D4), by (repeat' (first | (with_reducible exact Below.refl _ _) | (with_reducible refine bstep (by with_reducible assumption) ?_) | (with_reducible refine Below.alloc ?_ ?_ _) | (with_reducible refine Below.drew ?_) | (with_reducible refine below_drewN ?_ _) | (with_reducible refine Below.setCell ?_ ?_ _) | go_size))⟩)
        with_reducible refine q_want ?_ ?_ (fun wo hSw => ?_) ?_
        rotate_left
        · rfl
        · obtain ⟨k1, k2, k3, k4, k5⟩ := id hSw; go_simp; (try with_reducible rfl)
        try simp only [Act.put, List.setIfInBounds_toArray, List.set_cons_zero, List.set_cons_succ]
        with_reducible refine q_want ?_ ?_ (fun wo hSw => ?_) ?_
        rotate_left
        · rfl
        · obtain ⟨k1, k2, k3, k4, k5⟩ := id hSw; go_simp; (try with_reducible rfl)
        try simp only [Act.put, List.setIfInBounds_toArray, List.set_cons_zero, List.set_cons_succ]
        with_reducible refine q_want ?_ ?_ (fun wo hSw => ?_) ?_
        rotate_left
        · rfl
        · obtain ⟨k1, k2, k3, k4, k5⟩ := id hSw; go_simp; (try with_reducible rfl)
        try simp only [Act.put, List.setIfInBounds_toArray, List.set_cons_zero, List.set_cons_succ]
        with_reducible refine q_skip ?_ ?_
        · rfl
        try simp only [Act.put, List.setIfInBounds_toArray, List.set_cons_zero, List.set_cons_succ]
        with_reducible refine q_skip ?_ ?_
        · rfl
        try simp only [Act.put, List.setIfInBounds_toArray, List.set_cons_zero, List.set_cons_succ]
        with_reducible refine q_skip ?_ ?_
        · rfl
        try simp only [Act.put, List.setIfInBounds_toArray, List.set_cons_zero, List.set_cons_succ]
        with_reducible refine q_skip ?_ ?_
        · rfl
        try simp only [Act.put, List.setIfInBounds_toArray, List.set_cons_zero, List.set_cons_succ]
        with_reducible refine q_skip ?_ ?_
        · rfl
        try simp only [Act.put, List.setIfInBounds_toArray, List.set_cons_zero, List.set_cons_succ]
        with_reducible refine q_skip ?_ ?_
        · rfl
        try simp only [Act.put, List.setIfInBounds_toArray, List.set_cons_zero, List.set_cons_succ]
        with_reducible refine q_skip ?_ ?_
        · rfl
        try simp only [Act.put, List.setIfInBounds_toArray, List.set_cons_zero, List.set_cons_succ]
        with_reducible refine q_skip ?_ ?_
        · rfl
        try simp only [Act.put, List.setIfInBounds_toArray, List.set_cons_zero, List.set_cons_succ]
        with_reducible refine q_skip ?_ ?_
        · rfl
        try simp only [Act.put, List.setIfInBounds_toArray, List.set_cons_zero, List.set_cons_succ]
        with_reducible refine q_want ?_ ?_ (fun wo hSw => ?_) ?_
        rotate_left
        · rfl
        · obtain ⟨k1, k2, k3, k4, k5⟩ := id hSw; go_simp; (try with_reducible rfl)
        try simp only [Act.put, List.setIfInBounds_toArray, List.set_cons_zero, List.set_cons_succ]
        with_reducible refine q_want ?_ ?_ (fun wo hSw => ?_) ?_
        rotate_left
        · rfl
        · obtain ⟨k1, k2, k3, k4, k5⟩ := id hSw; go_simp; (try with_reducible rfl)
        try simp only [Act.put, List.setIfInBounds_toArray, List.set_cons_zero, List.set_cons_succ]
        with_reducible refine wpQuiet_nil ?_
        intro wq hSq
        obtain ⟨_, _, _, _, hB⟩ := hSq
        have HB6 := Lib.hid hB
        clear hB
        go_wp2_with fail
        have HB7 := HB6.out
        go_returns
        exact ⟨by simp, by (repeat' (first | (with_reducible exact Below.refl _ _) | (with_reducible refine bstep (by with_reducible assumption) ?_) | (with_reducible refine Below.alloc ?_ ?_ _) | (with_reducible refine Below.drew ?_) | (with_reducible refine below_drewN ?_ _) | (with_reducible refine Below.setCell ?_ ?_ _) | go_size))⟩
theorem viewSteps_walk (xs : List Int) (hl : xs.length = 16) (_ : ∀ x ∈ xs, I64 x) (x : Int) (_ : I64 x) (y : Int) (_ : I64 y) (w : World) :
    Calls Try.prog 5 #[.agg (xs.map (Value.int .i64)).toArray, .int .i64 x, .int .i64 y] w fun e w' => e = .returned (.bool true) ∧ Below w.heap.size w w' := by
  match xs, hl with
  | [ax, ay, az, fx, fy, fz, rx, ry, rz, dx, dy, dz, cw, ch, cg, cd], _ =>
    cases hok : rayok ax ay az fx fy fz rx ry rz dx dy dz cw ch cg cd x y 0 0
    · exact steps_no ax ay az fx fy fz rx ry rz dx dy dz cw ch cg cd x y hok w
    · exact steps_yes ax ay az fx fy fz rx ry rz dx dy dz cw ch cg cd x y hok w
end Go.Proofs.Ytoalihdempcbjaa
