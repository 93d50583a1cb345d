/- The law on cut directions, walked: for all a and bounds of 64 bits it answers true. -/
import Derived.Test.YtbmemnbfdbpdkaaAlive02
import Derived.Deep.DeepCutAuto
namespace Go.Proofs.Ytbmemnbfdbpdkaa
open Go.RowKit
set_option maxRecDepth 100000
set_option linter.unusedSimpArgs false
theorem hv_pos {x : Int} (h : 0 ≤ x) : ∀ n, 0 ≤ hv n x
  | 0 => h
  | n + 1 => Int.tdiv_nonneg (hv_pos h n) (by omega)
theorem hv_neg (x : Int) : ∀ n, hv n (-x) = -hv n x
  | 0 => rfl
  | n + 1 => by show (hv n (-x)).tdiv 2 = -((hv n x).tdiv 2); rw [hv_neg x n, Int.neg_tdiv]
theorem hv_npos {x : Int} (h : x ≤ 0) (n : Nat) : hv n x ≤ 0 := by
  have := hv_pos (x := -x) (by omega) n
  rw [hv_neg] at this; omega
theorem hv_abs (x : Int) : ∀ n, (hv n x).natAbs ≤ x.natAbs
  | 0 => Nat.le_refl _
  | n + 1 => by
    show ((hv n x).tdiv 2).natAbs ≤ _
    have e : ((hv n x).tdiv 2).natAbs = (hv n x).natAbs / 2 := Int.natAbs_tdiv _ 2
    have := hv_abs x n
    omega
theorem hv_shift (x : Int) : ∀ n, hv n (x.tdiv 2) = hv (n + 1) x
  | 0 => rfl
  | n + 1 => by show (hv n (x.tdiv 2)).tdiv 2 = (hv (n + 1) x).tdiv 2; rw [hv_shift x n]
theorem inB_negs {x y z m : Int} (h0 : 1 ≤ m) (h1 : m ≤ 9223372036854775807) : inB (-x) (-y) (-z) m = inB x y z m := by
  rw [Bool.eq_iff_iff, inB_iff (by omega) h1, inB_iff (by omega) h1]
  omega
theorem cut_exists {m : Int} (h0 : 1 ≤ m) (h1 : m ≤ 9223372036854775807) : ∀ (k : Nat) (x y z : Int), far x y z = k → ∃ p q r, CutIs m x y z p q r := by
  intro k
  induction k using Nat.strongRecOn with
  | _ k ih =>
    intro x y z hk
    by_cases h : inB x y z m = true
    · exact ⟨x, y, z, 0, rfl, rfl, rfl, h, fun j hj => absurd hj (Nat.not_lt_zero j)⟩
    · have h : inB x y z m = false := by simpa using h
      obtain ⟨p, q, r, n, rfl, rfl, rfl, h2, h3⟩ := ih _ (hk ▸ far_half h0 h1 h) (x.tdiv 2) (y.tdiv 2) (z.tdiv 2) rfl
      refine ⟨_, _, _, n + 1, hv_shift x n, hv_shift y n, hv_shift z n, h2, fun j hj => ?_⟩
      match j with
      | 0 => exact h
      | j + 1 =>
        have := h3 j (by omega)
        rwa [hv_shift, hv_shift, hv_shift] at this
theorem cut_same {m x y z p q r p' q' r' : Int} (h : CutIs m x y z p q r) (h' : CutIs m x y z p' q' r') : p' = p ∧ q' = q ∧ r' = r := by
  obtain ⟨n, rfl, rfl, rfl, h1, h2⟩ := h
  obtain ⟨n', rfl, rfl, rfl, h1', h2'⟩ := h'
  have e : n' = n := by
    rcases Nat.lt_trichotomy n' n with hl | he | hl
    · rw [h2 n' hl] at h1'; cases h1'
    · exact he
    · rw [h2' n hl] at h1; cases h1
  subst e
  exact ⟨rfl, rfl, rfl⟩
theorem cut_neg {m x y z p q r : Int} (h0 : 1 ≤ m) (h1 : m ≤ 9223372036854775807) (h : CutIs m x y z p q r) : CutIs m (-x) (-y) (-z) (-p) (-q) (-r) := by
  obtain ⟨n, rfl, rfl, rfl, h2, h3⟩ := h
  refine ⟨n, (hv_neg x n).symm, (hv_neg y n).symm, (hv_neg z n).symm, by rw [inB_negs h0 h1]; exact h2, fun j hj => ?_⟩
  rw [hv_neg, hv_neg, hv_neg, inB_negs h0 h1]; exact h3 j hj
theorem cut_within {m x y z p q r : Int} (h : CutIs m x y z p q r) (hb : inB x y z m = true) : p = x ∧ q = y ∧ r = z := by
  obtain ⟨n, rfl, rfl, rfl, h2, h3⟩ := h
  match n with
  | 0 => exact ⟨rfl, rfl, rfl⟩
  | n + 1 => have := h3 0 (by omega); rw [show hv 0 x = x from rfl, show hv 0 y = y from rfl, show hv 0 z = z from rfl, hb] at this; cases this
theorem cut_is {m x y z p q r : Int} (h0 : 1 ≤ m) (h1 : m ≤ 9223372036854775807) (bx : I64 x) (by_ : I64 y) (bz : I64 z) (h : CutIs m x y z p q r) (w : World) :
    Calls Try.prog 22 #[V3 x y z, .int .i64 m] w fun e w' => e = .returned (V3 p q r) ∧ Below w.heap.size w w' := by
  refine (cut_any x y z m w h0 h1 bx by_ bz).mono ?_
  rintro e w' ⟨p', q', r', rfl, h', hb⟩
  obtain ⟨rfl, rfl, rfl⟩ := cut_same h h'
  exact ⟨rfl, hb⟩
theorem cut_low (x y z m : Int) (h : m < 1) (w : World) : Calls Try.prog 22 #[V3 x y z, .int .i64 m] w fun e w' => e = .returned (V3 0 0 0) ∧ Below w.heap.size w w' := by
  have c0 : decide (m < 1) = true := decide_eq_true h
  go_enter Try.func22, Try.ntmps22
  go_wp2
  go_returns
  exact ⟨rfl, by go_grown⟩
/-- A part's sign, before and behind: the tests of the law. -/
theorem sign_of {n : Nat} {x : Int} : (decide (hv n x < 0) = true ∧ decide (0 < x) = false ∧ decide (0 < hv n x) = false) ∨ (decide (hv n x < 0) = false ∧ decide (0 < hv n x) = false) ∨ (decide (hv n x < 0) = false ∧ decide (0 < hv n x) = true ∧ decide (x < 0) = false) := by
  simp only [decide_eq_true_eq, decide_eq_false_iff_not]
  rcases Int.lt_or_le 0 x with h | h
  · have := hv_pos (x := x) (by omega) n; omega
  · have := hv_npos (x := x) h n; omega
def SignsIs (x p : Int) : Prop := (decide (p < 0) = true ∧ decide (0 < x) = false ∧ decide (0 < p) = false) ∨ (decide (p < 0) = false ∧ decide (0 < p) = false) ∨ (decide (p < 0) = false ∧ decide (0 < p) = true ∧ decide (x < 0) = false)
theorem signs_of {m x y z p q r : Int} (h : CutIs m x y z p q r) : SignsIs x p ∧ SignsIs y q ∧ SignsIs z r := by
  obtain ⟨n, rfl, rfl, rfl, _, _⟩ := h
  exact ⟨sign_of, sign_of, sign_of⟩
theorem vecCut_low (x y z m : Int) (h : m < 1) (w : World) :
    Calls Try.prog 6 #[V3 x y z, .int .i64 m] w fun e w' => e = .returned (.bool true) ∧ Below w.heap.size w w' := by
  have c0 : decide (m < 1) = true := decide_eq_true h
  have K1 : Hid (∀ w, Calls Try.prog 22 #[V3 x y z, .int .i64 m] w fun e w' => e = .returned (V3 0 0 0) ∧ Below w.heap.size w w') := cut_low x y z m h
  clear h
  go_enter Try.func6, Try.ntmps6
  go_wp2_with (first
    | (go_at_call 20; refine (alive02_any _).mono ?_; rintro e w1 ⟨rfl, hb1⟩; obtain ⟨hc1, hf1⟩ := bcell hb1)
    | (go_at_call 22; refine (K1.out _).mono ?_; rintro e w2 ⟨rfl, hb2⟩))
  go_returns
  exact ⟨by simp, by (repeat' (first | (with_reducible exact Below.refl _ _) | (with_reducible refine bstep (by with_reducible assumption) ?_) | (with_reducible refine Below.alloc ?_ ?_ _) | (with_reducible refine Below.drew ?_) | (with_reducible refine below_drewN ?_ _) | (with_reducible refine Below.setCell ?_ ?_ _) | go_size))⟩
set_option maxHeartbeats 4000000 in
theorem vecCut_high (x y z m : Int) (h0 : 1 ≤ m) (h1 : m ≤ 9223372036854775807) (bx : I64 x) (by_ : I64 y) (bz : I64 z) (w : World) :
    Calls Try.prog 6 #[V3 x y z, .int .i64 m] w fun e w' => e = .returned (.bool true) ∧ Below w.heap.size w w' := by
  have c0 : decide (m < 1) = false := decide_eq_false (by omega)
  obtain ⟨p, q, r, hC⟩ := cut_exists h0 h1 _ x y z rfl
  have K1 : Hid (∀ w, Calls Try.prog 22 #[V3 x y z, .int .i64 m] w fun e w' => e = .returned (V3 p q r) ∧ Below w.heap.size w w') := cut_is h0 h1 bx by_ bz hC
  have W1 : Hid (∀ w, Calls Try.prog 17 #[V3 p q r, .int .i64 m] w fun e w' => e = .returned (.bool true) ∧ Below w.heap.size w w') := by
    intro w; have := within_any p q r m w; obtain ⟨n, e1, e2, e3, e4, e5⟩ := hC; rw [e4] at this; exact this
  obtain ⟨b1, hb1⟩ : ∃ b, inB x y z m = b := ⟨_, rfl⟩
  have W2 : Hid (∀ w, Calls Try.prog 17 #[V3 x y z, .int .i64 m] w fun e w' => e = .returned (.bool b1) ∧ Below w.heap.size w w') := by
    intro w; have := within_any x y z m w; rw [hb1] at this; exact this
  have hE : Hid (b1 = true → p = x ∧ q = y ∧ r = z) := fun h => cut_within hC (hb1.trans h)
  obtain ⟨s1, s2, s3⟩ := signs_of hC
  have S1 := Lib.hid s1
  have S2 := Lib.hid s2
  have S3 := Lib.hid s3
  clear s1 s2 s3 hb1
  obtain ⟨b2, hb2⟩ : ∃ b, inB x y z 4611686018427387904 = b := ⟨_, rfl⟩
  have W3 : Hid (∀ w, Calls Try.prog 17 #[V3 x y z, .int .i64 4611686018427387904] w fun e w' => e = .returned (.bool b2) ∧ Below w.heap.size w w') := by
    intro w; have := within_any x y z 4611686018427387904 w; rw [hb2] at this; exact this
  have M1 : Hid (b2 = true → ∀ w, Calls Try.prog 23 #[V3 x y z, .int .i64 (-1)] w fun e w' => e = .returned (V3 (-x) (-y) (-z)) ∧ Below w.heap.size w w') := by
    intro hb w
    rw [hb] at hb2
    rw [inB_iff (by omega) (by omega)] at hb2
    have := scale_any x y z (-1) w
    rw [w64 (x := x * -1) (by omega) (by omega), w64 (x := y * -1) (by omega) (by omega), w64 (x := z * -1) (by omega) (by omega), Int.mul_neg_one, Int.mul_neg_one, Int.mul_neg_one] at this
    exact this
  have M2 : Hid (b2 = true → ∀ w, Calls Try.prog 23 #[V3 p q r, .int .i64 (-1)] w fun e w' => e = .returned (V3 (-p) (-q) (-r)) ∧ Below w.heap.size w w') := by
    intro hb w
    rw [hb] at hb2
    rw [inB_iff (by omega) (by omega)] at hb2
    obtain ⟨n, rfl, rfl, rfl, _, _⟩ := hC
    have g1 := hv_abs x n
    have g2 := hv_abs y n
    have g3 := hv_abs z n
    have := scale_any (hv n x) (hv n y) (hv n z) (-1) w
    rw [w64 (x := hv n x * -1) (by omega) (by omega), w64 (x := hv n y * -1) (by omega) (by omega), w64 (x := hv n z * -1) (by omega) (by omega), Int.mul_neg_one, Int.mul_neg_one, Int.mul_neg_one] at this
    exact this
  have K2 : Hid (b2 = true → ∀ w, Calls Try.prog 22 #[V3 (-x) (-y) (-z), .int .i64 m] w fun e w' => e = .returned (V3 (-p) (-q) (-r)) ∧ Below w.heap.size w w') := by
    intro hb
    rw [hb] at hb2
    rw [inB_iff (by omega) (by omega)] at hb2
    refine cut_is h0 h1 ?_ ?_ ?_ (cut_neg h0 h1 hC) <;> unfold I64 <;> omega
  clear hC bx by_ bz hb2 h0 h1
  go_enter Try.func6, Try.ntmps6
  go_upto_region 6 with (first
    | (go_at_call 20; refine (alive02_any _).mono ?_; rintro e w1 ⟨rfl, hb1⟩; have g0 : w1.cell? ⟨w.heap.size, 0, none⟩ = some (.int .i64 x) := cell_later hb1 (by simp [go_sem]); have g1 : w1.cell? ⟨w.heap.size, 1, none⟩ = some (.int .i64 y) := cell_later hb1 (by simp [go_sem]); have g2 : w1.cell? ⟨w.heap.size, 2, none⟩ = some (.int .i64 z) := cell_later hb1 (by simp [go_sem]))
    | (go_at_call 22; refine (K1.out _).mono ?_; rintro e w2 ⟨rfl, hb2⟩; have g3 := cell_later hb2 g0; have g4 := cell_later hb2 g1; have g5 := cell_later hb2 g2))
  have g6 := cell_alloc (.cells #[.int .i64 p, .int .i64 q, .int .i64 r] 23) g3
  have g7 := cell_alloc (.cells #[.int .i64 p, .int .i64 q, .int .i64 r] 23) g4
  have g8 := cell_alloc (.cells #[.int .i64 p, .int .i64 q, .int .i64 r] 23) g5
  have g9 : (w2.alloc (.cells #[.int .i64 p, .int .i64 q, .int .i64 r] 23)).cell? ⟨w2.heap.size, 0, none⟩ = some (.int .i64 p) := by simp
  have g10 : (w2.alloc (.cells #[.int .i64 p, .int .i64 q, .int .i64 r] 23)).cell? ⟨w2.heap.size, 1, none⟩ = some (.int .i64 q) := by simp
  have g11 : (w2.alloc (.cells #[.int .i64 p, .int .i64 q, .int .i64 r] 23)).cell? ⟨w2.heap.size, 2, none⟩ = some (.int .i64 r) := by simp
  clear g0 g1 g2 g3 g4 g5
  have hsz : w.heap.size ≤ w2.heap.size := by have a := hb1.size; have b := hb2.size; rw [World.size_alloc] at a; omega
  go_cut [31] (fun s wc => s = .bool false ∧ (wc.cell? ⟨w.heap.size, 0, none⟩ = some (.int .i64 x) ∧ wc.cell? ⟨w.heap.size, 1, none⟩ = some (.int .i64 y) ∧ wc.cell? ⟨w.heap.size, 2, none⟩ = some (.int .i64 z) ∧ wc.cell? ⟨w2.heap.size, 0, none⟩ = some (.int .i64 p) ∧ wc.cell? ⟨w2.heap.size, 1, none⟩ = some (.int .i64 q) ∧ wc.cell? ⟨w2.heap.size, 2, none⟩ = some (.int .i64 r)) ∧ Below w.heap.size w wc)
  case first =>
    cases b1 with
    | true =>
      obtain ⟨e1, e2, e3⟩ := hE.out rfl
      subst e1 e2 e3
      go_wp2_with (first
        | (go_at_call 17; ((with_reducible refine (W1.out _).mono ?_); rintro e w3 ⟨rfl, hb3⟩; have k0 := cell_later hb3 g6; have k1 := cell_later hb3 g7; have k2 := cell_later hb3 g8; have k3 := cell_later hb3 g9; have k4 := cell_later hb3 g10; have k5 := cell_later hb3 g11; clear g6 g7 g8 g9 g10 g11))
        | (go_at_call 17; ((with_reducible refine (W2.out _).mono ?_); rintro e w4 ⟨rfl, hb4⟩; have m0 := cell_later hb4 k0; have m1 := cell_later hb4 k1; have m2 := cell_later hb4 k2; have m3 := cell_later hb4 k3; have m4 := cell_later hb4 k4; have m5 := cell_later hb4 k5; clear k0 k1 k2 k3 k4 k5)))
      go_meet
      case rel => exact ⟨rfl, ⟨m0, m1, m2, m3, m4, m5⟩, by (repeat' (first | (with_reducible exact Below.refl _ _) | (with_reducible refine bstep (by with_reducible assumption) ?_) | (with_reducible refine Below.alloc ?_ ?_ _) | (with_reducible refine Below.drew ?_) | (with_reducible refine below_drewN ?_ _) | (with_reducible refine Below.setCell ?_ ?_ _) | go_size))⟩
    | false =>
      go_wp2_with (first
        | (go_at_call 17; ((with_reducible refine (W1.out _).mono ?_); rintro e w3 ⟨rfl, hb3⟩; have k0 := cell_later hb3 g6; have k1 := cell_later hb3 g7; have k2 := cell_later hb3 g8; have k3 := cell_later hb3 g9; have k4 := cell_later hb3 g10; have k5 := cell_later hb3 g11; clear g6 g7 g8 g9 g10 g11))
        | (go_at_call 17; ((with_reducible refine (W2.out _).mono ?_); rintro e w4 ⟨rfl, hb4⟩; have m0 := cell_later hb4 k0; have m1 := cell_later hb4 k1; have m2 := cell_later hb4 k2; have m3 := cell_later hb4 k3; have m4 := cell_later hb4 k4; have m5 := cell_later hb4 k5; clear k0 k1 k2 k3 k4 k5)))
      go_meet
      case rel => exact ⟨rfl, ⟨m0, m1, m2, m3, m4, m5⟩, by (repeat' (first | (with_reducible exact Below.refl _ _) | (with_reducible refine bstep (by with_reducible assumption) ?_) | (with_reducible refine Below.alloc ?_ ?_ _) | (with_reducible refine Below.drew ?_) | (with_reducible refine below_drewN ?_ _) | (with_reducible refine Below.setCell ?_ ?_ _) | go_size))⟩
  case rest =>
    obtain ⟨rfl, ⟨g0, g1, g2, g3, g4, g5⟩, hb⟩ := hcut
    clear g6 g7 g8 g9 g10 g11
    go_upto_region 8 with fail
    go_cut [89] (fun s wx => s = .bool false ∧ wx = wc)
    case first =>
      have s1 := S1.out
      have s2 := S2.out
      have s3 := S3.out
      unfold SignsIs at s1 s2 s3
      rcases s1 with ⟨a1, a2, a3⟩ | ⟨a1, a2⟩ | ⟨a1, a2, a3⟩ <;> rcases s2 with ⟨a4, a5, a6⟩ | ⟨a4, a5⟩ | ⟨a4, a5, a6⟩ <;> rcases s3 with ⟨a7, a8, a9⟩ | ⟨a7, a8⟩ | ⟨a7, a8, a9⟩
      all_goals (go_wp2; go_meet; exact ⟨rfl, rfl⟩)
    case rest =>
      obtain ⟨rfl, rfl⟩ := hcut
      cases b2 with
      | false =>
        go_wp2_with (go_at_call 17; ((with_reducible refine (W3.out _).mono ?_); rintro e w3 ⟨rfl, hb3⟩))
        go_returns
        exact ⟨by simp, by (repeat' (first | (with_reducible exact Below.refl _ _) | (with_reducible refine bstep (by with_reducible assumption) ?_) | (with_reducible refine Below.alloc ?_ ?_ _) | (with_reducible refine Below.drew ?_) | (with_reducible refine below_drewN ?_ _) | (with_reducible refine Below.setCell ?_ ?_ _) | go_size))⟩
      | true =>
        have N1 := Lib.hid (M1.out rfl)
        have N2 := Lib.hid (M2.out rfl)
        have N3 := Lib.hid (K2.out rfl)
        clear M1 M2 K2
        go_wp2_with (go_at_call 17; ((with_reducible refine (W3.out _).mono ?_); rintro e w3 ⟨rfl, hb3⟩; have k0 := cell_later hb3 g0; have k1 := cell_later hb3 g1; have k2 := cell_later hb3 g2; have k3 := cell_later hb3 g3; have k4 := cell_later hb3 g4; have k5 := cell_later hb3 g5))
        clear g0 g1 g2 g3 g4 g5
        go_region_held3 (fun w' => w'.cell? ⟨w.heap.size, 0, none⟩ = some (.int .i64 x) ∧ w'.cell? ⟨w.heap.size, 1, none⟩ = some (.int .i64 y) ∧ w'.cell? ⟨w.heap.size, 2, none⟩ = some (.int .i64 z) ∧
            w'.cell? ⟨w2.heap.size, 0, none⟩ = some (.int .i64 p) ∧ w'.cell? ⟨w2.heap.size, 1, none⟩ = some (.int .i64 q) ∧ w'.cell? ⟨w2.heap.size, 2, none⟩ = some (.int .i64 r)) ((first | (go_keep; done) | (go_split_ands; (repeat' apply And.intro) <;> (first | assumption | (exact cell_later (by assumption) (by assumption)) | (((with_reducible apply cell_drew); with_reducible apply cell_alloc); assumption) | (go_keep; done) | (simp [*, go_sem]; done)))))
          (first
            | (go_at_call 23; ((with_reducible refine (N1.out _).mono ?_); rintro e w5 ⟨rfl, hb5⟩))
            | (go_at_call 23; ((with_reducible refine (N2.out _).mono ?_); rintro e w5 ⟨rfl, hb5⟩))
            | (go_at_call 22; ((with_reducible refine (N3.out _).mono ?_); rintro e w5 ⟨rfl, hb5⟩)))
        all_goals (go_wp2; go_returns; exact ⟨by simp, by (repeat' (first | (with_reducible exact Below.refl _ _) | (with_reducible refine bstep (by with_reducible assumption) ?_) | (with_reducible refine Below.alloc ?_ ?_ _) | (with_reducible refine Below.drew ?_) | (with_reducible refine below_drewN ?_ _) | (with_reducible refine Below.setCell ?_ ?_ _) | go_size))⟩)
theorem vecCut_walk (x y z : Int) (bx : I64 x) (by_ : I64 y) (bz : I64 z) (m : Int) (bm : I64 m) (w : World) :
    Calls Try.prog 6 #[V3 x y z, .int .i64 m] w fun e w' => e = .returned (.bool true) ∧ Below w.heap.size w w' := by
  by_cases h : m < 1
  · exact vecCut_low x y z m h w
  · exact vecCut_high x y z m (by omega) bm.2 bx by_ bz w
end Go.Proofs.Ytbmemnbfdbpdkaa
