/- What relievoref11.Point answers, for all points and numbers of 64 bits. -/
import Derived.Test.YtdemcleibpgglaaRef11
import Derived.Test.YtdemcleibpgglaaPoint
namespace Go.Proofs.Ytdemcleibpgglaa
open Go.RowKit
set_option maxRecDepth 100000
set_option linter.unusedSimpArgs false
set_option linter.unusedVariables false
def RPRel (g S T U : Nat) (cs va ua : Array Value) (X Wt : Nat → Int) (w : World) (k : Nat) (i : Value) (wr : World) : Prop :=
  ∃ j, j ≤ g ∧ k = g - j ∧ i = .int .i64 (j : Int) ∧ (∀ o, wr.cell? ⟨S, o, none⟩ = cs[o]?) ∧ (∀ o, wr.cell? ⟨S + 1, o, none⟩ = (#[.int .i64 0, .int .i64 0, .int .i64 0] : Array Value)[o]?) ∧ (∀ o, wr.frozen? ⟨S + 1, o, none⟩ = false) ∧
    (∀ o, wr.cell? ⟨T, o, none⟩ = va[o]?) ∧ (∀ o, wr.cell? ⟨U, o, none⟩ = ua[o]?) ∧ (∀ o, wr.cell? ⟨U + 1, o, none⟩ = (#[.int .i64 (sums X Wt 0 j), .int .i64 (sums X Wt 1 j), .int .i64 (sums X Wt 2 j)] : Array Value)[o]?) ∧ (∀ o, wr.frozen? ⟨U + 1, o, none⟩ = false) ∧ Below S w wr
theorem rpoint_no (cs : Array Value) (hs0 : 0 < cs.size) (i n j m : Int) (h : there i n = false ∨ there j m = false) (w : World) :
    Calls Try.prog 29 #[.agg cs, .int .i64 i, .int .i64 n, .int .i64 j, .int .i64 m] w fun e w' => e = .returned (.tuple #[V3 0 0 0, .bool false]) ∧ Below w.heap.size w w' := by
  have TA := Lib.hid (rthere_any i n)
  have TB := Lib.hid (rthere_any j m)
  obtain ⟨a, ea⟩ : ∃ t, there i n = t := ⟨_, rfl⟩
  obtain ⟨b, eb⟩ : ∃ t, there j m = t := ⟨_, rfl⟩
  rw [ea, eb] at h
  rw [ea] at TA
  rw [eb] at TB
  clear ea eb
  have hh : (a = false) ∨ (a = true ∧ b = false) := by cases a <;> simp_all
  clear h
  rcases hh with rfl | ⟨rfl, rfl⟩
  · go_enter Try.func29, Try.ntmps29
    go_wp2_with (go_at_call 52; ((with_reducible refine (TA.out _).mono ?_); rintro e w1 ⟨rfl, hb1⟩; have Z1 : ∀ o, w1.cell? ⟨w.heap.size + 1, o, none⟩ = (#[.int .i64 0, .int .i64 0, .int .i64 0] : Array Value)[o]? := blk_later (by simp) hb1 (by (repeat (first | (with_reducible assumption) | (focus ((with_reducible refine new_at ?_ _ _); (repeat (first | (with_reducible rfl) | (with_reducible refine sz1 ?_))); done)) | (with_reducible refine blk_alloc (by simp) _ ?_) | (with_reducible refine blk_drew ?_)))); have F1 : ∀ o, w1.frozen? ⟨w.heap.size + 1, o, none⟩ = false := fro_call hb1 (by (repeat (first | (with_reducible assumption) | (focus ((with_reducible refine fro_new ?_ _ _); (repeat (first | (with_reducible rfl) | (with_reducible refine sz1 ?_))); done)) | ((with_reducible refine fro_more ?_ _ ?_); (repeat (first | (with_reducible assumption) | (focus ((with_reducible refine lt_new ?_); (repeat (first | (with_reducible rfl) | (with_reducible refine sz1 ?_))); done)) | (with_reducible refine lt_here ?_))))))) (by (repeat (first | (with_reducible assumption) | (focus ((with_reducible refine lt_new ?_); (repeat (first | (with_reducible rfl) | (with_reducible refine sz1 ?_))); done)) | (with_reducible refine lt_here ?_)))); have s1 : w.heap.size + 1 < w1.heap.size := blk_lt (by simp) Z1))
    have k0 := s3_0 (u := .int .i64 0) (v := .int .i64 0) (x := .int .i64 0) (Z1 0)
    have k1 := s3_1 (u := .int .i64 0) (v := .int .i64 0) (x := .int .i64 0) (Z1 1)
    have k2 := s3_2 (u := .int .i64 0) (v := .int .i64 0) (x := .int .i64 0) (Z1 2)
    refine bodyPost_ret (v := .tuple #[V3 0 0 0, .bool false]) (by simp [results, Try.results29, go_sem, k0, k1, k2]) rfl ?_
    exact ⟨rfl, by (repeat' (first | (with_reducible exact Below.refl _ _) | (with_reducible refine bstep (by with_reducible assumption) ?_) | (with_reducible refine Below.alloc ?_ ?_ _) | (with_reducible refine Below.drew ?_) | (with_reducible refine below_drewN ?_ _) | (with_reducible refine Below.setCell ?_ ?_ _) | go_size))⟩
  · go_enter Try.func29, Try.ntmps29
    go_wp2_with (first
      | (go_at_call 52; ((with_reducible refine (TA.out _).mono ?_); rintro e w1 ⟨rfl, hb1⟩; have Z1 : ∀ o, w1.cell? ⟨w.heap.size + 1, o, none⟩ = (#[.int .i64 0, .int .i64 0, .int .i64 0] : Array Value)[o]? := blk_later (by simp) hb1 (by (repeat (first | (with_reducible assumption) | (focus ((with_reducible refine new_at ?_ _ _); (repeat (first | (with_reducible rfl) | (with_reducible refine sz1 ?_))); done)) | (with_reducible refine blk_alloc (by simp) _ ?_) | (with_reducible refine blk_drew ?_)))); have F1 : ∀ o, w1.frozen? ⟨w.heap.size + 1, o, none⟩ = false := fro_call hb1 (by (repeat (first | (with_reducible assumption) | (focus ((with_reducible refine fro_new ?_ _ _); (repeat (first | (with_reducible rfl) | (with_reducible refine sz1 ?_))); done)) | ((with_reducible refine fro_more ?_ _ ?_); (repeat (first | (with_reducible assumption) | (focus ((with_reducible refine lt_new ?_); (repeat (first | (with_reducible rfl) | (with_reducible refine sz1 ?_))); done)) | (with_reducible refine lt_here ?_))))))) (by (repeat (first | (with_reducible assumption) | (focus ((with_reducible refine lt_new ?_); (repeat (first | (with_reducible rfl) | (with_reducible refine sz1 ?_))); done)) | (with_reducible refine lt_here ?_)))); have s1 : w.heap.size + 1 < w1.heap.size := blk_lt (by simp) Z1))
      | (go_at_call 52; ((with_reducible refine (TB.out _).mono ?_); rintro e w2 ⟨rfl, hb2⟩; have Z2 := blk_later (by simp) hb2 Z1; have F2 := fro_call hb2 F1 s1; have s2 : w.heap.size + 1 < w2.heap.size := blk_lt (by simp) Z2)))
    have k0 := s3_0 (u := .int .i64 0) (v := .int .i64 0) (x := .int .i64 0) (Z2 0)
    have k1 := s3_1 (u := .int .i64 0) (v := .int .i64 0) (x := .int .i64 0) (Z2 1)
    have k2 := s3_2 (u := .int .i64 0) (v := .int .i64 0) (x := .int .i64 0) (Z2 2)
    refine bodyPost_ret (v := .tuple #[V3 0 0 0, .bool false]) (by simp [results, Try.results29, go_sem, k0, k1, k2]) rfl ?_
    exact ⟨rfl, by (repeat' (first | (with_reducible exact Below.refl _ _) | (with_reducible refine bstep (by with_reducible assumption) ?_) | (with_reducible refine Below.alloc ?_ ?_ _) | (with_reducible refine Below.drew ?_) | (with_reducible refine below_drewN ?_ _) | (with_reducible refine Below.setCell ?_ ?_ _) | go_size))⟩
set_option maxHeartbeats 8000000 in
theorem rpoint_m (cs : Array Value) (X : Nat → Int) (hX : Is48 cs X) (i n j m : Int) (h : there i n = true) (h' : there j m = true) (k : Nat) (hk : k ≤ 16)
    (hin : ∀ j, j < k → inB (X (j * 3)) (X (j * 3 + 1)) (X (j * 3 + 2)) 65536 = true) (hbad : k < 16 → inB (X (k * 3)) (X (k * 3 + 1)) (X (k * 3 + 2)) 65536 = false)
    (r0 r1 r2 : Int) (e0 : ptv X 0 i n j m = r0) (e1 : ptv X 1 i n j m = r1) (e2 : ptv X 2 i n j m = r2)
    (p q r : Int) (ok : Bool) (hR1 : k = 16 → Value.tuple #[V3 p q r, .bool ok] = .tuple #[V3 r0 r1 r2, .bool true]) (hR2 : k < 16 → Value.tuple #[V3 p q r, .bool ok] = .tuple #[V3 0 0 0, .bool false]) (w : World) :
    Calls Try.prog 29 #[.agg cs, .int .i64 i, .int .i64 n, .int .i64 j, .int .i64 m] w fun e w' => e = .returned (.tuple #[V3 p q r, .bool ok]) ∧ Below w.heap.size w w' := by
  have TA : Hid (∀ w, Calls Try.prog 52 #[.int .i64 i, .int .i64 n] w fun e w' => e = .returned (.bool true) ∧ Below w.heap.size w w') := by
    intro w; have := rthere_any i n w; rw [h] at this; exact this
  have TB : Hid (∀ w, Calls Try.prog 52 #[.int .i64 j, .int .i64 m] w fun e w' => e = .returned (.bool true) ∧ Below w.heap.size w w') := by
    intro w; have := rthere_any j m w; rw [h'] at this; exact this
  have KA := Lib.hid (rweights_any i n h)
  have KB := Lib.hid (rweights_any j m h')
  have hW := fun t ht => wtp_le h h' t ht
  have hWD : ∀ t, wtp i n j m t = wts i n (t % 4) * wts j m (t / 4) := fun t => rfl
  have ⟨g1, g2, _, _⟩ := there_iff.1 h
  have ⟨g1', g2', _, _⟩ := there_iff.1 h'
  have ⟨⟨m1, m2⟩, m3, m4⟩ := n3_le g1 g2
  have m5 := mul_le (a := n * n * n) (b := m) (A := 4096) (B := 16) (by omega) m4 (by omega) g2'
  have m6 := mul_le (a := n * n * n * m) (b := m) (A := 65536) (B := 16) m5.1 m5.2 (by omega) g2'
  have m7 := mul_le (a := n * n * n * m * m) (b := m) (A := 1048576) (B := 16) m6.1 m6.2 (by omega) g2'
  have ed : n * n * n * (m * m * m) = n * n * n * m * m * m := by simp only [Int.mul_assoc]
  have m8 : 1 ≤ n * n * n * m * m * m := by
    rw [← ed]
    have := Int.mul_le_mul (cube_pos g1) (cube_pos g1') (by omega) (by omega)
    omega
  unfold ptv at e0 e1 e2
  rw [ed] at e0 e1 e2
  have CV := Lib.hid (fun o ho => cells4 i n o ho)
  have CU := Lib.hid (fun o ho => cells4 j m o ho)
  obtain ⟨Wt, hWt⟩ : ∃ X, wtp i n j m = X := ⟨_, rfl⟩
  obtain ⟨Vv, hVv⟩ : ∃ X, wts i n = X := ⟨_, rfl⟩
  obtain ⟨Uu, hUu⟩ : ∃ X, wts j m = X := ⟨_, rfl⟩
  rw [hWt] at hW e0 e1 e2
  rw [hWt, hVv, hUu] at hWD
  rw [hVv] at CV
  rw [hUu] at CU
  have bX : ∀ j, j < k → ∀ c, c < 3 → -65536 ≤ X (j * 3 + c) ∧ X (j * 3 + c) ≤ 65536 := by
    intro j hj c hc
    have := hin j hj
    rw [inB_iff (by omega) (by omega)] at this
    match c, hc with
    | 0, _ => exact this.1
    | 1, _ => exact this.2.1
    | 2, _ => exact this.2.2
  obtain ⟨hs, hx⟩ := hX
  have hs0 : 0 < cs.size := by omega
  have CX := Lib.hid hx
  have HBX := Lib.hid bX
  have HW := Lib.hid hW
  have HWD := Lib.hid hWD
  have HI := Lib.hid hin
  have HBAD := Lib.hid hbad
  have E0 := Lib.hid e0
  have E1 := Lib.hid e1
  have E2 := Lib.hid e2
  have HR1 := Lib.hid hR1
  have HR2 := Lib.hid hR2
  clear h h' hin hbad e0 e1 e2 hR1 hR2 hWt hVv hUu bX hW hWD ed hx
  go_enter Try.func29, Try.ntmps29
  go_wp2_with (first
    | (go_at_call 52; ((with_reducible refine (TA.out _).mono ?_); rintro e w1 ⟨rfl, hb1⟩; have P1 := Lib.hid (blk_later hs0 hb1 (by (repeat (first | (with_reducible assumption) | (focus ((with_reducible refine new_at ?_ _ _); (repeat (first | (with_reducible rfl) | (with_reducible refine sz1 ?_))); done)) | (with_reducible refine blk_alloc hs0 _ ?_) | (with_reducible refine blk_drew ?_)))) : ∀ o, w1.cell? ⟨w.heap.size, o, none⟩ = cs[o]?); have Z1 : ∀ o, w1.cell? ⟨w.heap.size + 1, o, none⟩ = (#[.int .i64 0, .int .i64 0, .int .i64 0] : Array Value)[o]? := blk_later (by simp) hb1 (by (repeat (first | (with_reducible assumption) | (focus ((with_reducible refine new_at ?_ _ _); (repeat (first | (with_reducible rfl) | (with_reducible refine sz1 ?_))); done)) | (with_reducible refine blk_alloc (by simp) _ ?_) | (with_reducible refine blk_drew ?_)))); have F1 : ∀ o, w1.frozen? ⟨w.heap.size + 1, o, none⟩ = false := fro_call hb1 (by (repeat (first | (with_reducible assumption) | (focus ((with_reducible refine fro_new ?_ _ _); (repeat (first | (with_reducible rfl) | (with_reducible refine sz1 ?_))); done)) | ((with_reducible refine fro_more ?_ _ ?_); (repeat (first | (with_reducible assumption) | (focus ((with_reducible refine lt_new ?_); (repeat (first | (with_reducible rfl) | (with_reducible refine sz1 ?_))); done)) | (with_reducible refine lt_here ?_))))))) (by (repeat (first | (with_reducible assumption) | (focus ((with_reducible refine lt_new ?_); (repeat (first | (with_reducible rfl) | (with_reducible refine sz1 ?_))); done)) | (with_reducible refine lt_here ?_)))); have s1 : w.heap.size + 1 < w1.heap.size := blk_lt (by simp) Z1))
    | (go_at_call 52; ((with_reducible refine (TB.out _).mono ?_); rintro e w2 ⟨rfl, hb2⟩; have P2 := Lib.hid (blk_later (cs := cs) hs0 hb2 P1.out); have Z2 := blk_later (by simp) hb2 Z1; have F2 := fro_call hb2 F1 s1; have s2 : w.heap.size + 1 < w2.heap.size := blk_lt (by simp) Z2; clear P1 Z1 F1))
    | (go_at_call 53; ((with_reducible refine (KA.out _).mono ?_); rintro e w3 ⟨rfl, hb3⟩; have P3 := Lib.hid (blk_later (cs := cs) hs0 hb3 P2.out); have Z3 := blk_later (by simp) hb3 Z2; have F3 := fro_call hb3 F2 s2; have s3 : w.heap.size + 1 < w3.heap.size := blk_lt (by simp) Z3; clear P2 Z2 F2))
    | (go_at_call 53; ((with_reducible refine (KB.out _).mono ?_); rintro e w4 ⟨rfl, hb4⟩; have P4 := Lib.hid (blk_later (cs := cs) hs0 hb4 (blk_alloc hs0 _ P3.out)); have Z4 := blk_later (by simp) hb4 (blk_alloc (by simp) _ Z3); have F4 := fro_call hb4 (fro_more s3 _ F3) (lt_here s3); have V4 := Lib.hid (blk_later (by simp) hb4 (new_at rfl _ _)); have s4 : w.heap.size + 1 < w4.heap.size := blk_lt (by simp) Z4; have s4v : w3.heap.size < w4.heap.size := blk_lt (by simp) V4.out; have s4p : w.heap.size < w4.heap.size := (by omega); clear P3 Z3 F3)))
  go_loopg [15] k (fun c i' wr => RPRel k w.heap.size w3.heap.size w4.heap.size cs (C4 (wt0 i n) (wt1 i n) (wt2 i n) (wt3 i n)) (C4 (wt0 j m) (wt1 j m) (wt2 j m) (wt3 j m)) X Wt w c i' wr)
  case atStart => exact ⟨0, by omega, by omega, rfl, blk_alloc hs0 _ (blk_alloc hs0 _ P4.out), blk_alloc (by simp) _ (blk_alloc (by simp) _ Z4), fro_more (by rw [World.size_alloc]; omega) _ (fro_more s4 _ F4), blk_alloc (by simp) _ (blk_alloc (by simp) _ V4.out), by (repeat (first | (with_reducible assumption) | (focus ((with_reducible refine new_at ?_ _ _); (repeat (first | (with_reducible rfl) | (with_reducible refine sz1 ?_))); done)) | (with_reducible refine blk_alloc (by simp) _ ?_) | (with_reducible refine blk_drew ?_))), by simp only [sums]; (repeat (first | (with_reducible assumption) | (focus ((with_reducible refine new_at ?_ _ _); (repeat (first | (with_reducible rfl) | (with_reducible refine sz1 ?_))); done)) | (with_reducible refine blk_alloc (by simp) _ ?_) | (with_reducible refine blk_drew ?_))), by (repeat (first | (with_reducible assumption) | (focus ((with_reducible refine fro_new ?_ _ _); (repeat (first | (with_reducible rfl) | (with_reducible refine sz1 ?_))); done)) | ((with_reducible refine fro_more ?_ _ ?_); (repeat (first | (with_reducible assumption) | (focus ((with_reducible refine lt_new ?_); (repeat (first | (with_reducible rfl) | (with_reducible refine sz1 ?_))); done)) | (with_reducible refine lt_here ?_)))))), by (repeat' (first | (with_reducible exact Below.refl _ _) | (with_reducible refine bstep (by with_reducible assumption) ?_) | (with_reducible refine Below.alloc ?_ ?_ _) | (with_reducible refine Below.drew ?_) | (with_reducible refine below_drewN ?_ _) | (with_reducible refine Below.setCell ?_ ?_ _) | go_size))⟩
  case round =>
    obtain ⟨t, ht, rfl, rfl, P5, Z5, F5, V5, U5, Q5, G5, hb⟩ := hrel
    have HB := Lib.hid hb
    have s5 : w4.heap.size + 1 < wr.heap.size := blk_lt (by simp) Q5
    have s5z : w.heap.size + 1 < wr.heap.size := by omega
    have HP5 := Lib.hid P5
    have HV5 := Lib.hid V5
    have HU5 := Lib.hid U5
    clear hb P4 Z4 F4 V4
    by_cases hlm : t < 16
    · have c0 := (P5 (t * 3)).trans (CX.out (t * 3) (by omega))
      have c1 := (P5 (t * 3 + 1)).trans (CX.out (t * 3 + 1) (by omega))
      have c2 := (P5 (t * 3 + 2)).trans (CX.out (t * 3 + 2) (by omega))
      have hu4 : t % 4 < 4 := by omega
      have hv4 : t / 4 < 4 := by omega
      have y := (V5 (t % 4)).trans (CV.out (t % 4) hu4)
      have z := (U5 (t / 4)).trans (CU.out (t / 4) hv4)
      clear P5 V5 U5
      have hj0 : (0 : Int) ≤ (t : Int) := by omega
      have hj1 : (t : Int) < 16 := by omega
      by_cases hjm : t < k
      · have W1 : Hid (∀ w, Calls Try.prog 54 #[V3 (X (t * 3)) (X (t * 3 + 1)) (X (t * 3 + 2)), .int .i64 65536] w fun e w' => e = .returned (.bool true) ∧ Below w.heap.size w w') := by
          intro w; have := within0_any (X (t * 3)) (X (t * 3 + 1)) (X (t * 3 + 2)) 65536 w; rw [HI.out t hjm] at this; exact this
        have t0 := sums_le (n := k) (fun j hj => HBX.out j hj 0 (by omega)) (fun j hj => HW.out j (by omega)) t ht
        have t1 := sums_le (n := k) (fun j hj => HBX.out j hj 1 (by omega)) (fun j hj => HW.out j (by omega)) t ht
        have t2 := sums_le (n := k) (fun j hj => HBX.out j hj 2 (by omega)) (fun j hj => HW.out j (by omega)) t ht
        have ⟨w1', w2'⟩ := HW.out t hlm
        have v0 : -1099511627776 ≤ X (t * 3) * Wt t ∧ X (t * 3) * Wt t ≤ 1099511627776 := prod_le (HBX.out t hjm 0 (by omega)) ⟨w1', w2'⟩
        have v1 := prod_le (HBX.out t hjm 1 (by omega)) ⟨w1', w2'⟩
        have v2 := prod_le (HBX.out t hjm 2 (by omega)) ⟨w1', w2'⟩
        have n0 : sums X Wt 0 (t + 1) = sums X Wt 0 t + X (t * 3) * Wt t := rfl
        have n1 := sums_next X Wt 1 t
        have n2 := sums_next X Wt 2 t
        obtain ⟨p0, e0⟩ : ∃ p, X (t * 3) * Wt t = p := ⟨_, rfl⟩
        obtain ⟨p1, e1⟩ : ∃ p, X (t * 3 + 1) * Wt t = p := ⟨_, rfl⟩
        obtain ⟨p2, e2⟩ : ∃ p, X (t * 3 + 2) * Wt t = p := ⟨_, rfl⟩
        rw [e0] at v0 n0
        rw [e1] at v1 n1
        rw [e2] at v2 n2
        have M := Lib.hid (rscale_b _ _ _ _ p0 p1 p2 e0 e1 e2 v0 v1 v2)
        have A := Lib.hid (radd_b (sums X Wt 0 t) (sums X Wt 1 t) (sums X Wt 2 t) p0 p1 p2 (by omega) (by omega) (by omega))
        have N0 := Lib.hid n0
        have N1 := Lib.hid n1
        have N2 := Lib.hid n2
        have f1 : (t : Int).tmod 4 = ((t % 4 : Nat) : Int) := by rw [Int.tmod_eq_emod_of_nonneg (by omega)]; omega
        have f2 : (t : Int).tdiv 4 = ((t / 4 : Nat) : Int) := by rw [Int.tdiv_eq_ediv_of_nonneg (by omega)]; omega
        have f4 : IntKind.i64.wrap (Vv (t % 4) * Uu (t / 4)) = Wt t := by rw [← HWD.out t]; exact IntWalk.i64_in _ (by omega)
        obtain ⟨u, hu⟩ : ∃ u, t % 4 = u := ⟨_, rfl⟩
        obtain ⟨v, hv⟩ : ∃ v, t / 4 = v := ⟨_, rfl⟩
        rw [hu] at f1 f4 y hu4
        rw [hv] at f2 f4 z hv4
        have f3 : IntKind.i64.wrap (v : Int) = (v : Int) := IntWalk.i64_in _ (by omega)
        have f5 : (u : Int) < 4 := by omega
        have f6 : (0 : Int) ≤ (u : Int) := by omega
        have f7 : (v : Int) < 4 := by omega
        have f8 : (0 : Int) ≤ (v : Int) := by omega
        clear e0 e1 e2 n0 n1 n2 t0 t1 t2 v0 v1 v2 hu hv
        have nb : w4.heap.size + 1 ≠ w.heap.size := by omega
        have nz : w4.heap.size + 1 ≠ w.heap.size + 1 := by omega
        have nt : w4.heap.size + 1 ≠ w3.heap.size := by omega
        have nu : w4.heap.size + 1 ≠ w4.heap.size := by omega
        go_wp2_with (go_at_call 54; ((with_reducible refine (W1.out _).mono ?_); rintro e w6 ⟨rfl, hb6⟩; have P6 := Lib.hid (blk_later (cs := cs) hs0 hb6 HP5.out); have Z6 := blk_later (by simp) hb6 Z5; have F6 := fro_call hb6 F5 s5z; have V6 := Lib.hid (blk_later (by simp) hb6 HV5.out); have U6 := Lib.hid (blk_later (by simp) hb6 HU5.out); have Q6 := blk_later (by simp) hb6 Q5; have G6 := fro_call hb6 G5 s5; have s6 : w4.heap.size + 1 < w6.heap.size := blk_lt (by simp) Q6; have s6z : w.heap.size + 1 < w6.heap.size := blk_lt (by simp) Z6; clear HP5 Z5 F5 HV5 HU5 Q5 G5; have a0 := cell_later hb6 c0; have a1 := cell_later hb6 c1; have a2 := cell_later hb6 c2; have ay := cell_later hb6 y; have az := cell_later hb6 z; clear c0 c1 c2 y z))
        refine wp_region_held_drew (S := (fun w' => w'.cell? ⟨w.heap.size, t * 3, none⟩ = some (.int .i64 (X (t * 3))) ∧ w'.cell? ⟨w.heap.size, t * 3 + 1, none⟩ = some (.int .i64 (X (t * 3 + 1))) ∧ w'.cell? ⟨w.heap.size, t * 3 + 2, none⟩ = some (.int .i64 (X (t * 3 + 2))) ∧ w'.cell? ⟨w3.heap.size, u, none⟩ = some (.int .i64 (Vv u)) ∧ w'.cell? ⟨w4.heap.size, v, none⟩ = some (.int .i64 (Uu v)))) (by kernel_rfl) ?_ (fun hHeld => ?_)
        · (try dsimp only); (exact ⟨a0, a1, a2, ay, az⟩)
        refine wpAnyH_take (i := 1) (oi := { dst := some 45, op := Go.Op.move (Go.Operand.tmp 15), type := 3, pos := "ref.go:47", after := #[], guard := none }) (v := ?_) rfl (by kernel_rfl) (by kernel_rfl) (by kernel_rfl) (fun _ _ _ h => h) (Or.inl ⟨by rfl, ?_⟩) (by assumption) ?_
        rotate_left
        · intro w hSw; (try dsimp only at hSw); go_simp; (try with_reducible rfl)
        try simp only [Act.put, List.setIfInBounds_toArray, List.set_cons_zero, List.set_cons_succ]
        refine wpAnyH_take (i := 2) (oi := { dst := some 46, op := Go.Op.indexAddr 42 (Go.Operand.tmp 5) (Go.Operand.tmp 45), type := 0, pos := "ref.go:47", after := #[{ on := 1, ground := Go.Ground.data }], guard := none }) (v := ?_) rfl (by kernel_rfl) (by kernel_rfl) (by kernel_rfl) (fun _ _ _ h => h) (Or.inl ⟨by rfl, ?_⟩) (by assumption) ?_
        rotate_left
        · intro w hSw; (try dsimp only at hSw); go_simp; (try with_reducible rfl)
        try simp only [Act.put, List.setIfInBounds_toArray, List.set_cons_zero, List.set_cons_succ]
        refine wpAnyH_take (i := 3) (oi := { dst := some 47, op := Go.Op.load 23 (Go.Operand.tmp 46), type := 23, pos := "ref.go:47", after := #[{ on := 2, ground := Go.Ground.data }], guard := none }) (v := ?_) rfl (by kernel_rfl) (by kernel_rfl) (by kernel_rfl) (fun _ _ _ h => h) (Or.inl ⟨by rfl, ?_⟩) (by assumption) ?_
        rotate_left
        · intro w hSw; (try dsimp only at hSw); go_simp; (try with_reducible rfl)
        try simp only [Act.put, List.setIfInBounds_toArray, List.set_cons_zero, List.set_cons_succ]
        refine wpAnyH_take (i := 4) (oi := { dst := some 48, op := Go.Op.move (Go.Operand.tmp 15), type := 3, pos := "ref.go:47", after := #[], guard := none }) (v := ?_) rfl (by kernel_rfl) (by kernel_rfl) (by kernel_rfl) (fun _ _ _ h => h) (Or.inl ⟨by rfl, ?_⟩) (by assumption) ?_
        rotate_left
        · intro w hSw; (try dsimp only at hSw); go_simp; (try with_reducible rfl)
        try simp only [Act.put, List.setIfInBounds_toArray, List.set_cons_zero, List.set_cons_succ]
        refine wpAnyH_take (i := 5) (oi := { dst := some 49, op := Go.Op.binOp Go.BinOp.rem 3 (Go.Operand.tmp 48) (Go.Operand.const (Go.Value.int Go.IntKind.i64 4)) 3, type := 3, pos := "ref.go:47", after := #[{ on := 4, ground := Go.Ground.data }], guard := none }) (v := ?_) rfl (by kernel_rfl) (by kernel_rfl) (by kernel_rfl) (fun _ _ _ h => h) (Or.inl ⟨by rfl, ?_⟩) (by assumption) ?_
        rotate_left
        · intro w hSw; (try dsimp only at hSw); go_simp; (try with_reducible rfl)
        try simp only [Act.put, List.setIfInBounds_toArray, List.set_cons_zero, List.set_cons_succ]
        refine wpAnyH_take (i := 6) (oi := { dst := some 50, op := Go.Op.indexAddr 53 (Go.Operand.tmp 12) (Go.Operand.tmp 49), type := 0, pos := "ref.go:47", after := #[{ on := 5, ground := Go.Ground.data }], guard := none }) (v := ?_) rfl (by kernel_rfl) (by kernel_rfl) (by kernel_rfl) (fun _ _ _ h => h) (Or.inl ⟨by rfl, ?_⟩) (by assumption) ?_
        rotate_left
        · intro w hSw; (try dsimp only at hSw); go_simp; (try with_reducible rfl)
        try simp only [Act.put, List.setIfInBounds_toArray, List.set_cons_zero, List.set_cons_succ]
        refine wpAnyH_take (i := 7) (oi := { dst := some 51, op := Go.Op.load 3 (Go.Operand.tmp 50), type := 3, pos := "ref.go:47", after := #[{ on := 6, ground := Go.Ground.data }], guard := none }) (v := ?_) rfl (by kernel_rfl) (by kernel_rfl) (by kernel_rfl) (fun _ _ _ h => h) (Or.inl ⟨by rfl, ?_⟩) (by assumption) ?_
        rotate_left
        · intro w hSw; (try dsimp only at hSw); go_simp; (try with_reducible rfl)
        try simp only [Act.put, List.setIfInBounds_toArray, List.set_cons_zero, List.set_cons_succ]
        refine wpAnyH_take (i := 8) (oi := { dst := some 52, op := Go.Op.move (Go.Operand.tmp 15), type := 3, pos := "ref.go:47", after := #[], guard := none }) (v := ?_) rfl (by kernel_rfl) (by kernel_rfl) (by kernel_rfl) (fun _ _ _ h => h) (Or.inl ⟨by rfl, ?_⟩) (by assumption) ?_
        rotate_left
        · intro w hSw; (try dsimp only at hSw); go_simp; (try with_reducible rfl)
        try simp only [Act.put, List.setIfInBounds_toArray, List.set_cons_zero, List.set_cons_succ]
        refine wpAnyH_take (i := 9) (oi := { dst := some 53, op := Go.Op.binOp Go.BinOp.quo 3 (Go.Operand.tmp 52) (Go.Operand.const (Go.Value.int Go.IntKind.i64 4)) 3, type := 3, pos := "ref.go:47", after := #[{ on := 8, ground := Go.Ground.data }], guard := none }) (v := ?_) rfl (by kernel_rfl) (by kernel_rfl) (by kernel_rfl) (fun _ _ _ h => h) (Or.inl ⟨by rfl, ?_⟩) (by assumption) ?_
        rotate_left
        · intro w hSw; (try dsimp only at hSw); go_simp; (try with_reducible rfl)
        try simp only [Act.put, List.setIfInBounds_toArray, List.set_cons_zero, List.set_cons_succ]
        refine wpAnyH_take (i := 10) (oi := { dst := some 54, op := Go.Op.indexAddr 53 (Go.Operand.tmp 13) (Go.Operand.tmp 53), type := 0, pos := "ref.go:47", after := #[{ on := 9, ground := Go.Ground.data }], guard := none }) (v := ?_) rfl (by kernel_rfl) (by kernel_rfl) (by kernel_rfl) (fun _ _ _ h => h) (Or.inl ⟨by rfl, ?_⟩) (by assumption) ?_
        rotate_left
        · intro w hSw; (try dsimp only at hSw); go_simp; (try with_reducible rfl)
        try simp only [Act.put, List.setIfInBounds_toArray, List.set_cons_zero, List.set_cons_succ]
        refine wpAnyH_take (i := 11) (oi := { dst := some 55, op := Go.Op.load 3 (Go.Operand.tmp 54), type := 3, pos := "ref.go:47", after := #[{ on := 10, ground := Go.Ground.data }], guard := none }) (v := ?_) rfl (by kernel_rfl) (by kernel_rfl) (by kernel_rfl) (fun _ _ _ h => h) (Or.inl ⟨by rfl, ?_⟩) (by assumption) ?_
        rotate_left
        · intro w hSw; (try dsimp only at hSw); go_simp; (try with_reducible rfl)
        try simp only [Act.put, List.setIfInBounds_toArray, List.set_cons_zero, List.set_cons_succ]
        refine wpAnyH_take (i := 12) (oi := { dst := some 56, op := Go.Op.binOp Go.BinOp.mul 3 (Go.Operand.tmp 51) (Go.Operand.tmp 55) 3, type := 3, pos := "ref.go:47", after := #[{ on := 7, ground := Go.Ground.data }, { on := 11, ground := Go.Ground.data }], guard := none }) (v := ?_) rfl (by kernel_rfl) (by kernel_rfl) (by kernel_rfl) (fun _ _ _ h => h) (Or.inl ⟨by rfl, ?_⟩) (by assumption) ?_
        rotate_left
        · intro w hSw; (try dsimp only at hSw); go_simp; (try with_reducible rfl)
        try simp only [Act.put, List.setIfInBounds_toArray, List.set_cons_zero, List.set_cons_succ]
        refine wpAnyH_ready (rs := [0, 13]) (by kernel_rfl) (by simp) ?_
        refine AllReadyH.cons (o := { dst := some 44, op := Go.Op.load 23 (Go.Operand.tmp 14), type := 23, pos := "ref.go:47", after := #[], guard := none }) rfl (fun K hK => ?_) ?_
        · go_simp
          refine hK.out _ _ ?_ (fun hHeld0 => ?_)
          · (try dsimp only); (exact hHeld)
          clear hK K hHeld
          try simp only [Act.put, List.setIfInBounds_toArray, List.set_cons_zero, List.set_cons_succ]
          refine wpAnyH_ready (rs := [13]) (by kernel_rfl) (by simp) ?_
          refine AllReadyH.cons (o := { dst := some 57, op := Go.Op.call { callee := Go.Callee.value (Go.Operand.func 24), args := #[Go.Operand.tmp 47, Go.Operand.tmp 56], argTypes := #[23, 3] }, type := 23, pos := "ref.go:47", after := #[{ on := 3, ground := Go.Ground.data }, { on := 12, ground := Go.Ground.data }], guard := none }) rfl (fun K hK => ?_) AllReadyH.nil
          go_simp
          (go_at_call 24; ((with_reducible refine (M.out _).mono ?_); rintro e w7 ⟨rfl, hb7⟩; have P7 := Lib.hid (blk_later (cs := cs) hs0 hb7 (blk_drew P6.out)); have Z7 := blk_later (by simp) hb7 (blk_drew Z6); have F7 := fro_call hb7 (fro_drew F6) (lt_drew s6z); have V7 := Lib.hid (blk_later (by simp) hb7 (blk_drew V6.out)); have U7 := Lib.hid (blk_later (by simp) hb7 (blk_drew U6.out)); have Q7 := blk_later (by simp) hb7 (blk_drew Q6); have G7 := fro_call hb7 (fro_drew G6) (lt_drew s6); have s7 : w4.heap.size + 1 < w7.heap.size := blk_lt (by simp) Q7; have s7z : w.heap.size + 1 < w7.heap.size := blk_lt (by simp) Z7; clear P6 Z6 F6 V6 U6 Q6 G6))
          refine hK.out _ _ ?_ (fun hHeld13 => ?_)
          · (try dsimp only); (exact ⟨cell_later hb7 hHeld0.1, cell_later hb7 hHeld0.2.1, cell_later hb7 hHeld0.2.2.1, cell_later hb7 hHeld0.2.2.2.1, cell_later hb7 hHeld0.2.2.2.2⟩)
          clear hK K hHeld0
          try simp only [Act.put, List.setIfInBounds_toArray, List.set_cons_zero, List.set_cons_succ]
          refine wpAnyH_ready (rs := [14]) (by kernel_rfl) (by simp) ?_
          refine AllReadyH.cons (o := { dst := some 58, op := Go.Op.call { callee := Go.Callee.value (Go.Operand.func 19), args := #[Go.Operand.tmp 44, Go.Operand.tmp 57], argTypes := #[23, 23] }, type := 23, pos := "ref.go:47", after := #[{ on := 0, ground := Go.Ground.data }, { on := 13, ground := Go.Ground.data }, { on := 13, ground := Go.Ground.chain }], guard := none }) rfl (fun K hK => ?_) AllReadyH.nil
          go_simp
          (go_at_call 19; ((with_reducible refine (A.out _).mono ?_); rintro e w8 ⟨rfl, hb8⟩; have P8 := Lib.hid (blk_later (cs := cs) hs0 hb8 P7.out); have Z8 := blk_later (by simp) hb8 Z7; have F8 := fro_call hb8 F7 s7z; have V8 := Lib.hid (blk_later (by simp) hb8 V7.out); have U8 := Lib.hid (blk_later (by simp) hb8 U7.out); have Q8 := blk_later (by simp) hb8 Q7; have G8 := fro_call hb8 G7 s7; have s8 : w4.heap.size + 1 < w8.heap.size := blk_lt (by simp) Q8; have s8z : w.heap.size + 1 < w8.heap.size := blk_lt (by simp) Z8; clear P7 Z7 F7 V7 U7 Q7 G7))
          refine hK.out _ _ ?_ (fun hHeld14 => ?_)
          · (try dsimp only); (exact ⟨cell_later hb8 hHeld13.1, cell_later hb8 hHeld13.2.1, cell_later hb8 hHeld13.2.2.1, cell_later hb8 hHeld13.2.2.2.1, cell_later hb8 hHeld13.2.2.2.2⟩)
          clear hK K hHeld13
          try simp only [Act.put, List.setIfInBounds_toArray, List.set_cons_zero, List.set_cons_succ]
          refine wpAnyH_ready (rs := [15]) (by kernel_rfl) (by simp) ?_
          refine AllReadyH.cons (o := { dst := none, op := Go.Op.store 23 (Go.Operand.tmp 14) (Go.Operand.tmp 58), type := 0, pos := "ref.go:47", after := #[{ on := 14, ground := Go.Ground.data }, { on := 14, ground := Go.Ground.chain }, { on := 0, ground := Go.Ground.phase }, { on := 1, ground := Go.Ground.phase }, { on := 2, ground := Go.Ground.phase }, { on := 3, ground := Go.Ground.phase }, { on := 4, ground := Go.Ground.phase }, { on := 5, ground := Go.Ground.phase }, { on := 6, ground := Go.Ground.phase }, { on := 7, ground := Go.Ground.phase }, { on := 8, ground := Go.Ground.phase }, { on := 9, ground := Go.Ground.phase }, { on := 10, ground := Go.Ground.phase }, { on := 11, ground := Go.Ground.phase }, { on := 12, ground := Go.Ground.phase }, { on := 13, ground := Go.Ground.phase }, { on := 14, ground := Go.Ground.phase }], guard := none }) rfl (fun K hK => ?_) AllReadyH.nil
          go_simp
          refine hK.out _ _ ?_ (fun hHeld15 => ?_)
          · (try dsimp only); (exact ⟨set3_far nb hHeld14.1, set3_far nb hHeld14.2.1, set3_far nb hHeld14.2.2.1, set3_far nt hHeld14.2.2.2.1, set3_far nu hHeld14.2.2.2.2⟩)
          clear hK K hHeld14
          try simp only [Act.put, List.setIfInBounds_toArray, List.set_cons_zero, List.set_cons_succ]
          refine wpAnyH_done (by kernel_rfl) ?_ _
          clear hHeld15
          go_wp2_with fail
          have HB' := HB.out
          go_roundg (k - (t + 1))
          case measure => omega
          case rel =>
            refine ⟨t + 1, by omega, rfl, by simp, st3_far nb P8.out, st3_far nz Z8, fun o => by simp [F8], st3_far nt V8.out, st3_far nu U8.out, ?_, fun o => by simp [G8], by (repeat' (first | (with_reducible exact Below.refl _ _) | (with_reducible refine bstep (by with_reducible assumption) ?_) | (with_reducible refine Below.alloc ?_ ?_ _) | (with_reducible refine Below.drew ?_) | (with_reducible refine below_drewN ?_ _) | (with_reducible refine Below.setCell ?_ ?_ _) | go_size))⟩
            rw [N0.out, N1.out, N2.out]
            exact st3_blk Q8 (by simp) (by simp) (by simp) rfl
        refine AllReadyH.cons (o := { dst := some 57, op := Go.Op.call { callee := Go.Callee.value (Go.Operand.func 24), args := #[Go.Operand.tmp 47, Go.Operand.tmp 56], argTypes := #[23, 3] }, type := 23, pos := "ref.go:47", after := #[{ on := 3, ground := Go.Ground.data }, { on := 12, ground := Go.Ground.data }], guard := none }) rfl (fun K hK => ?_) ?_
        · go_simp
          (go_at_call 24; ((with_reducible refine (M.out _).mono ?_); rintro e w7 ⟨rfl, hb7⟩; have P7 := Lib.hid (blk_later (cs := cs) hs0 hb7 (blk_drew P6.out)); have Z7 := blk_later (by simp) hb7 (blk_drew Z6); have F7 := fro_call hb7 (fro_drew F6) (lt_drew s6z); have V7 := Lib.hid (blk_later (by simp) hb7 (blk_drew V6.out)); have U7 := Lib.hid (blk_later (by simp) hb7 (blk_drew U6.out)); have Q7 := blk_later (by simp) hb7 (blk_drew Q6); have G7 := fro_call hb7 (fro_drew G6) (lt_drew s6); have s7 : w4.heap.size + 1 < w7.heap.size := blk_lt (by simp) Q7; have s7z : w.heap.size + 1 < w7.heap.size := blk_lt (by simp) Z7; clear P6 Z6 F6 V6 U6 Q6 G6))
          refine hK.out _ _ ?_ (fun hHeld13 => ?_)
          · (try dsimp only); (exact ⟨cell_later hb7 hHeld.1, cell_later hb7 hHeld.2.1, cell_later hb7 hHeld.2.2.1, cell_later hb7 hHeld.2.2.2.1, cell_later hb7 hHeld.2.2.2.2⟩)
          clear hK K hHeld
          try simp only [Act.put, List.setIfInBounds_toArray, List.set_cons_zero, List.set_cons_succ]
          refine wpAnyH_ready (rs := [0]) (by kernel_rfl) (by simp) ?_
          refine AllReadyH.cons (o := { dst := some 44, op := Go.Op.load 23 (Go.Operand.tmp 14), type := 23, pos := "ref.go:47", after := #[], guard := none }) rfl (fun K hK => ?_) AllReadyH.nil
          go_simp
          refine hK.out _ _ ?_ (fun hHeld0 => ?_)
          · (try dsimp only); (exact hHeld13)
          clear hK K hHeld13
          try simp only [Act.put, List.setIfInBounds_toArray, List.set_cons_zero, List.set_cons_succ]
          refine wpAnyH_ready (rs := [14]) (by kernel_rfl) (by simp) ?_
          refine AllReadyH.cons (o := { dst := some 58, op := Go.Op.call { callee := Go.Callee.value (Go.Operand.func 19), args := #[Go.Operand.tmp 44, Go.Operand.tmp 57], argTypes := #[23, 23] }, type := 23, pos := "ref.go:47", after := #[{ on := 0, ground := Go.Ground.data }, { on := 13, ground := Go.Ground.data }, { on := 13, ground := Go.Ground.chain }], guard := none }) rfl (fun K hK => ?_) AllReadyH.nil
          go_simp
          (go_at_call 19; ((with_reducible refine (A.out _).mono ?_); rintro e w8 ⟨rfl, hb8⟩; have P8 := Lib.hid (blk_later (cs := cs) hs0 hb8 P7.out); have Z8 := blk_later (by simp) hb8 Z7; have F8 := fro_call hb8 F7 s7z; have V8 := Lib.hid (blk_later (by simp) hb8 V7.out); have U8 := Lib.hid (blk_later (by simp) hb8 U7.out); have Q8 := blk_later (by simp) hb8 Q7; have G8 := fro_call hb8 G7 s7; have s8 : w4.heap.size + 1 < w8.heap.size := blk_lt (by simp) Q8; have s8z : w.heap.size + 1 < w8.heap.size := blk_lt (by simp) Z8; clear P7 Z7 F7 V7 U7 Q7 G7))
          refine hK.out _ _ ?_ (fun hHeld14 => ?_)
          · (try dsimp only); (exact ⟨cell_later hb8 hHeld0.1, cell_later hb8 hHeld0.2.1, cell_later hb8 hHeld0.2.2.1, cell_later hb8 hHeld0.2.2.2.1, cell_later hb8 hHeld0.2.2.2.2⟩)
          clear hK K hHeld0
          try simp only [Act.put, List.setIfInBounds_toArray, List.set_cons_zero, List.set_cons_succ]
          refine wpAnyH_ready (rs := [15]) (by kernel_rfl) (by simp) ?_
          refine AllReadyH.cons (o := { dst := none, op := Go.Op.store 23 (Go.Operand.tmp 14) (Go.Operand.tmp 58), type := 0, pos := "ref.go:47", after := #[{ on := 14, ground := Go.Ground.data }, { on := 14, ground := Go.Ground.chain }, { on := 0, ground := Go.Ground.phase }, { on := 1, ground := Go.Ground.phase }, { on := 2, ground := Go.Ground.phase }, { on := 3, ground := Go.Ground.phase }, { on := 4, ground := Go.Ground.phase }, { on := 5, ground := Go.Ground.phase }, { on := 6, ground := Go.Ground.phase }, { on := 7, ground := Go.Ground.phase }, { on := 8, ground := Go.Ground.phase }, { on := 9, ground := Go.Ground.phase }, { on := 10, ground := Go.Ground.phase }, { on := 11, ground := Go.Ground.phase }, { on := 12, ground := Go.Ground.phase }, { on := 13, ground := Go.Ground.phase }, { on := 14, ground := Go.Ground.phase }], guard := none }) rfl (fun K hK => ?_) AllReadyH.nil
          go_simp
          refine hK.out _ _ ?_ (fun hHeld15 => ?_)
          · (try dsimp only); (exact ⟨set3_far nb hHeld14.1, set3_far nb hHeld14.2.1, set3_far nb hHeld14.2.2.1, set3_far nt hHeld14.2.2.2.1, set3_far nu hHeld14.2.2.2.2⟩)
          clear hK K hHeld14
          try simp only [Act.put, List.setIfInBounds_toArray, List.set_cons_zero, List.set_cons_succ]
          refine wpAnyH_done (by kernel_rfl) ?_ _
          clear hHeld15
          go_wp2_with fail
          have HB' := HB.out
          go_roundg (k - (t + 1))
          case measure => omega
          case rel =>
            refine ⟨t + 1, by omega, rfl, by simp, st3_far nb P8.out, st3_far nz Z8, fun o => by simp [F8], st3_far nt V8.out, st3_far nu U8.out, ?_, fun o => by simp [G8], by (repeat' (first | (with_reducible exact Below.refl _ _) | (with_reducible refine bstep (by with_reducible assumption) ?_) | (with_reducible refine Below.alloc ?_ ?_ _) | (with_reducible refine Below.drew ?_) | (with_reducible refine below_drewN ?_ _) | (with_reducible refine Below.setCell ?_ ?_ _) | go_size))⟩
            rw [N0.out, N1.out, N2.out]
            exact st3_blk Q8 (by simp) (by simp) (by simp) rfl
        exact AllReadyH.nil
      · obtain rfl : t = k := by omega
        have W1 : Hid (∀ w, Calls Try.prog 54 #[V3 (X (t * 3)) (X (t * 3 + 1)) (X (t * 3 + 2)), .int .i64 65536] w fun e w' => e = .returned (.bool false) ∧ Below w.heap.size w w') := by
          intro w; have := within0_any (X (t * 3)) (X (t * 3 + 1)) (X (t * 3 + 2)) 65536 w; rw [HBAD.out hlm] at this; exact this
        go_wp2_with (go_at_call 54; ((with_reducible refine (W1.out _).mono ?_); rintro e w6 ⟨rfl, hb6⟩; have Z6 := blk_later (by simp) hb6 Z5; have F6 := fro_call hb6 F5 s5z; have s6z : w.heap.size + 1 < w6.heap.size := blk_lt (by simp) Z6))
        have k0 := s3_0 (u := .int .i64 0) (v := .int .i64 0) (x := .int .i64 0) (Z6 0)
        have k1 := s3_1 (u := .int .i64 0) (v := .int .i64 0) (x := .int .i64 0) (Z6 1)
        have k2 := s3_2 (u := .int .i64 0) (v := .int .i64 0) (x := .int .i64 0) (Z6 2)
        have HB' := HB.out
        rw [HR2.out hlm]
        refine bodyPost_ret (v := .tuple #[V3 0 0 0, .bool false]) (by simp [results, Try.results29, go_sem, k0, k1, k2]) rfl ?_
        exact ⟨rfl, by (repeat' (first | (with_reducible exact Below.refl _ _) | (with_reducible refine bstep (by with_reducible assumption) ?_) | (with_reducible refine Below.alloc ?_ ?_ _) | (with_reducible refine Below.drew ?_) | (with_reducible refine below_drewN ?_ _) | (with_reducible refine Below.setCell ?_ ?_ _) | go_size))⟩
    · obtain rfl : t = 16 := by omega
      obtain rfl : k = 16 := by omega
      have t0 := sums_le (n := 16) (fun j hj => HBX.out j hj 0 (by omega)) (fun j hj => HW.out j (by omega)) 16 (by omega)
      have t1 := sums_le (n := 16) (fun j hj => HBX.out j hj 1 (by omega)) (fun j hj => HW.out j (by omega)) 16 (by omega)
      have t2 := sums_le (n := 16) (fun j hj => HBX.out j hj 2 (by omega)) (fun j hj => HW.out j (by omega)) 16 (by omega)
      have OF := Lib.hid (rof_any (sums X Wt 0 16) (sums X Wt 1 16) (sums X Wt 2 16) (n * n * n * m * m * m) r0 r1 r2 E0.out E1.out E2.out m8 (by omega) (by omega) (by omega) (by omega))
      clear t0 t1 t2 P5 V5 U5
      go_wp2_with (go_at_call 55; ((with_reducible refine (OF.out _).mono ?_); rintro e w6 ⟨rfl, hb6⟩; have Z6 := blk_later (by simp) hb6 Z5; have F6 := fro_call hb6 F5 s5z; have s6z : w.heap.size + 1 < w6.heap.size := blk_lt (by simp) Z6))
      have k0 := s3_0 (u := .int .i64 r0) (v := .int .i64 r1) (x := .int .i64 r2) (Z6 0)
      have k1 := s3_1 (u := .int .i64 r0) (v := .int .i64 r1) (x := .int .i64 r2) (Z6 1)
      have k2 := s3_2 (u := .int .i64 r0) (v := .int .i64 r1) (x := .int .i64 r2) (Z6 2)
      have HB' := HB.out
      rw [HR1.out (by simp)]
      refine bodyPost_ret (v := .tuple #[V3 r0 r1 r2, .bool true]) (by simp [results, Try.results29, go_sem, k0, k1, k2]) rfl ?_
      exact ⟨rfl, by (repeat' (first | (with_reducible exact Below.refl _ _) | (with_reducible refine bstep (by with_reducible assumption) ?_) | (with_reducible refine Below.alloc ?_ ?_ _) | (with_reducible refine Below.drew ?_) | (with_reducible refine below_drewN ?_ _) | (with_reducible refine Below.setCell ?_ ?_ _) | go_size))⟩
theorem rpoint_is (cs : Array Value) (X : Nat → Int) (hX : Is48 cs X) (i n j m : Int) (ok : Bool) (p q r : Int) (hok : okPt X i n j m = ok) (ep : ptF ok X 0 i n j m = p) (eq : ptF ok X 1 i n j m = q) (er : ptF ok X 2 i n j m = r) (w : World) :
    Calls Try.prog 29 #[.agg cs, .int .i64 i, .int .i64 n, .int .i64 j, .int .i64 m] w fun e w' => e = .returned (.tuple #[V3 p q r, .bool ok]) ∧ Below w.heap.size w w' := by
  subst ep eq er
  cases h : there i n
  · obtain rfl : ok = false := by rw [← hok]; simp [okPt, h]
    exact rpoint_no cs (by have := hX.1; omega) i n j m (.inl h) w
  cases h' : there j m
  · obtain rfl : ok = false := by rw [← hok]; simp [okPt, h']
    exact rpoint_no cs (by have := hX.1; omega) i n j m (.inr h') w
  cases hp : okP16 X 16
  · obtain rfl : ok = false := by rw [← hok]; simp [okPt, hp]
    obtain ⟨k, h1, h2, h3⟩ := okP16_no hp
    exact rpoint_m cs X hX i n j m h h' k (by omega) h2 (fun _ => h3) _ _ _ rfl rfl rfl _ _ _ _ (fun hk => absurd hk (by omega)) (fun _ => rfl) w
  · obtain rfl : ok = true := by rw [← hok]; simp [okPt, h, h', hp]
    exact rpoint_m cs X hX i n j m h h' 16 (by omega) (okP16_yes hp) (fun hk => absurd hk (by omega)) _ _ _ rfl rfl rfl _ _ _ _ (fun _ => rfl) (fun hk => absurd hk (by omega)) w
end Go.Proofs.Ytdemcleibpgglaa
