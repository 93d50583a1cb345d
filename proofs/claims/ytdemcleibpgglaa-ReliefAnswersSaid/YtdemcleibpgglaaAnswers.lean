/- The law on texels, blends, mixes and lifted points, walked: for all textures, points, directions and numbers of 64 bits it answers true. -/
import Derived.Test.YtdemcleibpgglaaRMx
import Derived.Test.YtdemcleibpgglaaRLf
import Derived.Test.YtdemcleibpgglaaRTx
import Derived.Test.YtdemcleibpgglaaCopyI
import Derived.Test.YtdemcleibpgglaaAlive14
namespace Go.Proofs.Ytdemcleibpgglaa
open Go.RowKit
set_option maxRecDepth 100000
set_option linter.unusedSimpArgs false
set_option linter.unusedVariables false
def AnC (S X1 X2 Y1 Y2 Z1 Z2 : Nat) (ct cx cy cz : Array Value) (u v : Value) (zs : List Int) (w w' : World) : Prop := (∀ o, w'.cell? ⟨S, o, none⟩ = ct[o]?) ∧ (∀ o, w'.cell? ⟨X1, o, none⟩ = cx[o]?) ∧ (∀ o, w'.cell? ⟨X2, o, none⟩ = cx[o]?) ∧ (∀ o, w'.cell? ⟨Y1, o, none⟩ = cy[o]?) ∧ (∀ o, w'.cell? ⟨Y2, o, none⟩ = cy[o]?) ∧ (∀ o, w'.cell? ⟨Z1, o, none⟩ = cz[o]?) ∧ (∀ o, w'.cell? ⟨Z2, o, none⟩ = cz[o]?) ∧ Ints w' u zs ∧ Ints w' v zs ∧ Below w.heap.size w w'
theorem ints_slice {w : World} {v : Value} {zs : List Int} (h : Ints w v zs) : ∃ p n c, v = .slice p n c := by
  rcases h with ⟨_, p, c, rfl⟩ | ⟨b, off, c, rfl, _⟩
  · exact ⟨p, 0, c, rfl⟩
  · exact ⟨_, _, c, rfl⟩
theorem an_far (nm : ByteArray) (tw th : Int) (zs : List Int) (x y z : Int) (n0 n1 n2 n3 n4 n5 n6 n7 n8 n9 n10 n11 i k j m t h : Int) (v : Value) (hz : 2000 < zs.length) (w : World) (hv : Ints w v zs) :
    Calls Try.prog 13 #[.agg #[.string nm, .int .i64 tw, .int .i64 th, v], V3 x y z, .agg (C12 n0 n1 n2 n3 n4 n5 n6 n7 n8 n9 n10 n11), .int .i64 i, .int .i64 k, .int .i64 j, .int .i64 m, .int .i64 t, .int .i64 h] w fun e w' => e = .returned (.bool true) ∧ Below w.heap.size w w' := by
  obtain ⟨p, n, c, rfl, hn⟩ : ∃ p n c, v = .slice p n c ∧ zs.length = n := by
    rcases hv with ⟨rfl, p, c, rfl⟩ | ⟨b, off, c, rfl, _⟩
    · exact ⟨p, 0, c, rfl, rfl⟩
    · exact ⟨_, _, c, rfl, rfl⟩
  have d1 : decide ((2000 : Int) < (n : Int)) = true := decide_eq_true (by omega)
  have d2 : (2000 : Int) < (n : Int) := by omega
  clear hv hn hz
  go_enter Try.func13, Try.ntmps13
  go_wp2_with (go_at_call 20; ((with_reducible refine (alive14_any _).mono ?_); rintro e w1 ⟨rfl, hb1⟩; have T1 : ∀ o, w1.cell? ⟨w.heap.size, o, none⟩ = (#[.string nm, .int .i64 tw, .int .i64 th, .slice p n c] : Array Value)[o]? := blk_later (by simp) hb1 (by (repeat (first | (with_reducible assumption) | (focus ((with_reducible refine new_at ?_ _ _); (repeat (first | (with_reducible rfl) | (with_reducible refine sz1 ?_))); done)) | (with_reducible refine blk_alloc (by simp) _ ?_) | (with_reducible refine blk_drew ?_))))))
  all_goals first | (exfalso; omega) | (go_returns; exact ⟨by simp, by (repeat' (first | (with_reducible exact Below.refl _ _) | (with_reducible refine bstep (by with_reducible assumption) ?_) | (with_reducible refine Below.alloc ?_ ?_ _) | (with_reducible refine Below.drew ?_) | (with_reducible refine below_drewN ?_ _) | (with_reducible refine Below.setCell ?_ ?_ _) | go_size))⟩)
set_option maxHeartbeats 16000000 in
theorem an_near (nm : ByteArray) (tw th : Int) (zs : List Int) (x y z : Int) (n0 n1 n2 n3 n4 n5 n6 n7 n8 n9 n10 n11 i k j m t h : Int) (p : Option Addr) (n : Nat) (c : Nat) (hz : zs.length = n) (hn : n ≤ 2000) (w : World) (hv : Ints w (.slice p n c) zs) :
    Calls Try.prog 13 #[.agg #[.string nm, .int .i64 tw, .int .i64 th, .slice p n c], V3 x y z, .agg (C12 n0 n1 n2 n3 n4 n5 n6 n7 n8 n9 n10 n11), .int .i64 i, .int .i64 k, .int .i64 j, .int .i64 m, .int .i64 t, .int .i64 h] w fun e w' => e = .returned (.bool true) ∧ Below w.heap.size w w' := by
  have CI := Lib.hid (fun w' (h : Ints w' (.slice p n c) zs) => copyi_any zs (.slice p n c) (by omega) w' h)
  obtain ⟨ok0, h0⟩ : ∃ t, texok tw th zs x y z = t := ⟨_, rfl⟩
  obtain ⟨val, g0⟩ : ∃ t, txv ok0 tw th zs x y z = t := ⟨_, rfl⟩
  have TX := Lib.hid (fun u w' (hu : Ints w' u zs) => texel_is (.string nm) u tw th zs x y z ok0 val h0 g0 w' hu)
  have RX := Lib.hid (fun u w' (hu : Ints w' u zs) => rtexel_is (.string nm) u tw th zs x y z ok0 val h0 g0 w' hu)
  obtain ⟨ok1, h1⟩ : ∃ t, blok n0 n1 n2 n3 n4 n5 i k = t := ⟨_, rfl⟩
  obtain ⟨p1, a1⟩ : ∃ t, blv ok1 n0 n3 i k = t := ⟨_, rfl⟩
  obtain ⟨q1, b1⟩ : ∃ t, blv ok1 n1 n4 i k = t := ⟨_, rfl⟩
  obtain ⟨r1, c1⟩ : ∃ t, blv ok1 n2 n5 i k = t := ⟨_, rfl⟩
  have BL := Lib.hid (blend_is n0 n1 n2 n3 n4 n5 i k ok1 p1 q1 r1 h1 a1 b1 c1)
  have RB := Lib.hid (rblend_is n0 n1 n2 n3 n4 n5 i k ok1 p1 q1 r1 h1 a1 b1 c1)
  obtain ⟨ok2, h2⟩ : ∃ t, mixok n0 n1 n2 n3 n4 n5 n6 n7 n8 n9 n10 n11 i k j m = t := ⟨_, rfl⟩
  obtain ⟨p2, a2⟩ : ∃ t, mixv ok2 n0 n3 n6 n9 i k j m = t := ⟨_, rfl⟩
  obtain ⟨q2, b2⟩ : ∃ t, mixv ok2 n1 n4 n7 n10 i k j m = t := ⟨_, rfl⟩
  obtain ⟨r2, c2⟩ : ∃ t, mixv ok2 n2 n5 n8 n11 i k j m = t := ⟨_, rfl⟩
  have MI := Lib.hid (mix_is n0 n1 n2 n3 n4 n5 n6 n7 n8 n9 n10 n11 i k j m ok2 p2 q2 r2 h2 a2 b2 c2)
  have RM := Lib.hid (rmix_is n0 n1 n2 n3 n4 n5 n6 n7 n8 n9 n10 n11 i k j m ok2 p2 q2 r2 h2 a2 b2 c2)
  obtain ⟨ok3, h3⟩ : ∃ t', lfok x y z n0 n1 n2 t h = t' := ⟨_, rfl⟩
  obtain ⟨p3, a3⟩ : ∃ t', lfv ok3 x n0 t h = t' := ⟨_, rfl⟩
  obtain ⟨q3, b3⟩ : ∃ t', lfv ok3 y n1 t h = t' := ⟨_, rfl⟩
  obtain ⟨r3, c3⟩ : ∃ t', lfv ok3 z n2 t h = t' := ⟨_, rfl⟩
  have LF := Lib.hid (lift_is x y z n0 n1 n2 t h ok3 p3 q3 r3 h3 a3 b3 c3)
  have RL := Lib.hid (rlift_is x y z n0 n1 n2 t h ok3 p3 q3 r3 h3 a3 b3 c3)
  have HV := Lib.hid hv
  have d1 : decide ((2000 : Int) < (n : Int)) = false := decide_eq_false (by omega)
  have d2 : ¬ (2000 : Int) < (n : Int) := by omega
  clear hv h0 g0 h1 a1 b1 c1 h2 a2 b2 c2 h3 a3 b3 c3
  go_enter Try.func13, Try.ntmps13
  go_wp2_with (first
    | (go_at_call 20; ((with_reducible refine (alive14_any _).mono ?_); rintro e w1 ⟨rfl, hb1⟩; have T1 : ∀ o, w1.cell? ⟨w.heap.size, o, none⟩ = (#[.string nm, .int .i64 tw, .int .i64 th, .slice p n c] : Array Value)[o]? := blk_later (by simp) hb1 (by (repeat (first | (with_reducible assumption) | (focus ((with_reducible refine new_at ?_ _ _); (repeat (first | (with_reducible rfl) | (with_reducible refine sz1 ?_))); done)) | (with_reducible refine blk_alloc (by simp) _ ?_) | (with_reducible refine blk_drew ?_)))); have P1 : ∀ o, w1.cell? ⟨w.heap.size + 1, o, none⟩ = (#[.int .i64 x, .int .i64 y, .int .i64 z] : Array Value)[o]? := blk_later (by simp) hb1 (by (repeat (first | (with_reducible assumption) | (focus ((with_reducible refine new_at ?_ _ _); (repeat (first | (with_reducible rfl) | (with_reducible refine sz1 ?_))); done)) | (with_reducible refine blk_alloc (by simp) _ ?_) | (with_reducible refine blk_drew ?_)))); have N1 : ∀ o, w1.cell? ⟨w.heap.size + 1 + 1, o, none⟩ = (C12 n0 n1 n2 n3 n4 n5 n6 n7 n8 n9 n10 n11)[o]? := blk_later (by simp) hb1 (by (repeat (first | (with_reducible assumption) | (focus ((with_reducible refine new_at ?_ _ _); (repeat (first | (with_reducible rfl) | (with_reducible refine sz1 ?_))); done)) | (with_reducible refine blk_alloc (by simp) _ ?_) | (with_reducible refine blk_drew ?_)))); have HB1 : Below w.heap.size w w1 := (by (repeat' (first | (with_reducible exact Below.refl _ _) | (with_reducible refine bstep (by with_reducible assumption) ?_) | (with_reducible refine Below.alloc ?_ ?_ _) | (with_reducible refine Below.drew ?_) | (with_reducible refine below_drewN ?_ _) | (with_reducible refine Below.setCell ?_ ?_ _) | go_size))); have v1 := Lib.hid (ints_later HB1 HV.out); have HB1 := Lib.hid HB1))
    | (go_at_call 32; ((with_reducible refine (CI.out _ v1.out).mono ?_); rintro e w2 ⟨u, rfl, hu, hb2⟩; obtain ⟨pu, nu, cu, rfl⟩ := ints_slice hu; have u2 := Lib.hid hu; have v2 := Lib.hid (ints_later hb2 v1.out); have T2 := blk_later (by simp) hb2 T1; have P2 := blk_later (by simp) hb2 P1; have N2 := blk_later (by simp) hb2 N1; have s2t : w.heap.size < w2.heap.size := blk_lt (by simp) T2; have s2p : w.heap.size + 1 < w2.heap.size := blk_lt (by simp) P2; have s2n : w.heap.size + 1 + 1 < w2.heap.size := blk_lt (by simp) N2; have HB2 := Lib.hid (bstep hb2 HB1.out); clear hu T1 P1 N1))
    | (go_at_call 23; ((with_reducible refine (TX.out _ _ u2.out).mono ?_); rintro e w3 ⟨rfl, hb3⟩; have T3 := blk_later (by simp) hb3 T2; have P3 := blk_later (by simp) hb3 P2; have N3 := blk_later (by simp) hb3 N2; have s3t : w.heap.size < w3.heap.size := blk_lt (by simp) T3; have s3p : w.heap.size + 1 < w3.heap.size := blk_lt (by simp) P3; have s3n : w.heap.size + 1 + 1 < w3.heap.size := blk_lt (by simp) N3; have u3 := Lib.hid (ints_later hb3 u2.out); have v3 := Lib.hid (ints_later hb3 v2.out); have HB3 := Lib.hid (bstep hb3 HB2.out); clear T2 P2 N2 ))
    | (go_at_call 33; ((with_reducible refine (RX.out _ _ v3.out).mono ?_); rintro e w4 ⟨rfl, hb4⟩; have T4 := blk_later (by simp) hb4 T3; have P4 := blk_later (by simp) hb4 P3; have N4 := blk_later (by simp) hb4 N3; have s4t : w.heap.size < w4.heap.size := blk_lt (by simp) T4; have s4p : w.heap.size + 1 < w4.heap.size := blk_lt (by simp) P4; have s4n : w.heap.size + 1 + 1 < w4.heap.size := blk_lt (by simp) N4; have u4 := Lib.hid (ints_later hb4 u3.out); have v4 := Lib.hid (ints_later hb4 v3.out); have HB4 := Lib.hid (bstep hb4 HB3.out); clear T3 P3 N3 ))
    | (go_at_call 34; ((with_reducible refine (BL.out _).mono ?_); rintro e w5 ⟨rfl, hb5⟩; have T5 := blk_later (by simp) hb5 T4; have P5 := blk_later (by simp) hb5 P4; have N5 := blk_later (by simp) hb5 N4; have s5t : w.heap.size < w5.heap.size := blk_lt (by simp) T5; have s5p : w.heap.size + 1 < w5.heap.size := blk_lt (by simp) P5; have s5n : w.heap.size + 1 + 1 < w5.heap.size := blk_lt (by simp) N5; have u5 := Lib.hid (ints_later hb5 u4.out); have v5 := Lib.hid (ints_later hb5 v4.out); have HB5 := Lib.hid (bstep hb5 HB4.out); clear T4 P4 N4 ))
    | (go_at_call 35; ((with_reducible refine (RB.out _).mono ?_); rintro e w6 ⟨rfl, hb6⟩; have T6 := blk_later (by simp) hb6 (blk_alloc (by simp) _ T5); have P6 := blk_later (by simp) hb6 (blk_alloc (by simp) _ P5); have N6 := blk_later (by simp) hb6 (blk_alloc (by simp) _ N5); have s6t : w.heap.size < w6.heap.size := blk_lt (by simp) T6; have s6p : w.heap.size + 1 < w6.heap.size := blk_lt (by simp) P6; have s6n : w.heap.size + 1 + 1 < w6.heap.size := blk_lt (by simp) N6; have u6 := Lib.hid (ints_later hb6 (ints_later ((Below.refl _ _).alloc (Nat.le_refl _) _) u5.out)); have v6 := Lib.hid (ints_later hb6 (ints_later ((Below.refl _ _).alloc (Nat.le_refl _) _) v5.out)); have HB6 := Lib.hid (bstep hb6 (HB5.out.alloc (by omega) _)); have A6 := blk_later (by simp) hb6 (new_at rfl _ _); clear T5 P5 N5 ))
    | (go_at_call 36; ((with_reducible refine (MI.out _).mono ?_); rintro e w7 ⟨rfl, hb7⟩; have T7 := blk_later (by simp) hb7 (blk_alloc (by simp) _ T6); have P7 := blk_later (by simp) hb7 (blk_alloc (by simp) _ P6); have N7 := blk_later (by simp) hb7 (blk_alloc (by simp) _ N6); have s7t : w.heap.size < w7.heap.size := blk_lt (by simp) T7; have s7p : w.heap.size + 1 < w7.heap.size := blk_lt (by simp) P7; have s7n : w.heap.size + 1 + 1 < w7.heap.size := blk_lt (by simp) N7; have u7 := Lib.hid (ints_later hb7 (ints_later ((Below.refl _ _).alloc (Nat.le_refl _) _) u6.out)); have v7 := Lib.hid (ints_later hb7 (ints_later ((Below.refl _ _).alloc (Nat.le_refl _) _) v6.out)); have HB7 := Lib.hid (bstep hb7 (HB6.out.alloc (by omega) _)); have A7 := blk_later (by simp) hb7 (blk_alloc (by simp) _ A6); have B7 := blk_later (by simp) hb7 (new_at rfl _ _); clear T6 P6 N6 A6))
    | (go_at_call 37; ((with_reducible refine (RM.out _).mono ?_); rintro e w8 ⟨rfl, hb8⟩; have T8 := blk_later (by simp) hb8 (blk_alloc (by simp) _ T7); have P8 := blk_later (by simp) hb8 (blk_alloc (by simp) _ P7); have N8 := blk_later (by simp) hb8 (blk_alloc (by simp) _ N7); have s8t : w.heap.size < w8.heap.size := blk_lt (by simp) T8; have s8p : w.heap.size + 1 < w8.heap.size := blk_lt (by simp) P8; have s8n : w.heap.size + 1 + 1 < w8.heap.size := blk_lt (by simp) N8; have u8 := Lib.hid (ints_later hb8 (ints_later ((Below.refl _ _).alloc (Nat.le_refl _) _) u7.out)); have v8 := Lib.hid (ints_later hb8 (ints_later ((Below.refl _ _).alloc (Nat.le_refl _) _) v7.out)); have HB8 := Lib.hid (bstep hb8 (HB7.out.alloc (by omega) _)); have A8 := blk_later (by simp) hb8 (blk_alloc (by simp) _ A7); have B8 := blk_later (by simp) hb8 (blk_alloc (by simp) _ B7); have C8 := blk_later (by simp) hb8 (new_at rfl _ _); clear T7 P7 N7 A7 B7))
    | (go_at_call 21; ((with_reducible refine (LF.out _).mono ?_); rintro e w9 ⟨rfl, hb9⟩; have T9 := blk_later (by simp) hb9 (blk_alloc (by simp) _ T8); have P9 := blk_later (by simp) hb9 (blk_alloc (by simp) _ P8); have N9 := blk_later (by simp) hb9 (blk_alloc (by simp) _ N8); have s9t : w.heap.size < w9.heap.size := blk_lt (by simp) T9; have s9p : w.heap.size + 1 < w9.heap.size := blk_lt (by simp) P9; have s9n : w.heap.size + 1 + 1 < w9.heap.size := blk_lt (by simp) N9; have u9 := Lib.hid (ints_later hb9 (ints_later ((Below.refl _ _).alloc (Nat.le_refl _) _) u8.out)); have v9 := Lib.hid (ints_later hb9 (ints_later ((Below.refl _ _).alloc (Nat.le_refl _) _) v8.out)); have HB9 := Lib.hid (bstep hb9 (HB8.out.alloc (by omega) _)); have A9 := blk_later (by simp) hb9 (blk_alloc (by simp) _ A8); have B9 := blk_later (by simp) hb9 (blk_alloc (by simp) _ B8); have C9 := blk_later (by simp) hb9 (blk_alloc (by simp) _ C8); have D9 := blk_later (by simp) hb9 (new_at rfl _ _); clear T8 P8 N8 A8 B8 C8))
    | (go_at_call 38; ((with_reducible refine (RL.out _).mono ?_); rintro e w10 ⟨rfl, hb10⟩; have T10 := blk_later (by simp) hb10 (blk_alloc (by simp) _ T9); have P10 := blk_later (by simp) hb10 (blk_alloc (by simp) _ P9); have N10 := blk_later (by simp) hb10 (blk_alloc (by simp) _ N9); have s10t : w.heap.size < w10.heap.size := blk_lt (by simp) T10; have s10p : w.heap.size + 1 < w10.heap.size := blk_lt (by simp) P10; have s10n : w.heap.size + 1 + 1 < w10.heap.size := blk_lt (by simp) N10; have u10 := Lib.hid (ints_later hb10 (ints_later ((Below.refl _ _).alloc (Nat.le_refl _) _) u9.out)); have v10 := Lib.hid (ints_later hb10 (ints_later ((Below.refl _ _).alloc (Nat.le_refl _) _) v9.out)); have HB10 := Lib.hid (bstep hb10 (HB9.out.alloc (by omega) _)); have A10 := blk_later (by simp) hb10 (blk_alloc (by simp) _ A9); have B10 := blk_later (by simp) hb10 (blk_alloc (by simp) _ B9); have C10 := blk_later (by simp) hb10 (blk_alloc (by simp) _ C9); have D10 := blk_later (by simp) hb10 (blk_alloc (by simp) _ D9); have E10 := blk_later (by simp) hb10 (new_at rfl _ _); clear T9 P9 N9 A9 B9 C9 D9; have s10A : w5.heap.size < w10.heap.size := blk_lt (by simp) A10; have s10B : w6.heap.size < w10.heap.size := blk_lt (by simp) B10; have s10C : w7.heap.size < w10.heap.size := blk_lt (by simp) C10; have s10D : w8.heap.size < w10.heap.size := blk_lt (by simp) D10; have s10E : w9.heap.size < w10.heap.size := blk_lt (by simp) E10))
    | (go_at_call 39; ((with_reducible refine (same_ints zs _ _ _ (ints_later ((Below.refl _ _).alloc (Nat.le_refl _) _) u10.out) (ints_later ((Below.refl _ _).alloc (Nat.le_refl _) _) v10.out)).mono ?_); rintro e w11 ⟨rfl, hb11⟩)))
  have HB' := HB10.out
  go_returns
  exact ⟨by simp, by (repeat' (first | (with_reducible exact Below.refl _ _) | (with_reducible refine bstep (by with_reducible assumption) ?_) | (with_reducible refine Below.alloc ?_ ?_ _) | (with_reducible refine Below.drew ?_) | (with_reducible refine below_drewN ?_ _) | (with_reducible refine Below.setCell ?_ ?_ _) | go_size))⟩
theorem reliefAnswers_walk (nm : ByteArray) (v : Value) (tw th : Int) (zs : List Int) (_ : I64 tw) (_ : I64 th) (_ : ∀ z ∈ zs, I64 z) (x y z : Int) (_ : I64 x) (_ : I64 y) (_ : I64 z) (xs : List Int) (hl : xs.length = 12) (_ : ∀ x ∈ xs, I64 x) (i : Int) (_ : I64 i) (k : Int) (_ : I64 k) (j : Int) (_ : I64 j) (m : Int) (_ : I64 m) (t : Int) (_ : I64 t) (h : Int) (_ : I64 h) (w : World) (hv : Ints w v zs) :
    Calls Try.prog 13 #[.agg #[.string nm, .int .i64 tw, .int .i64 th, v], V3 x y z, .agg (xs.map (Value.int .i64)).toArray, .int .i64 i, .int .i64 k, .int .i64 j, .int .i64 m, .int .i64 t, .int .i64 h] w fun e w' => e = .returned (.bool true) ∧ Below w.heap.size w w' := by
  match xs, hl with
  | [n0, n1, n2, n3, n4, n5, n6, n7, n8, n9, n10, n11], _ =>
    by_cases hz : 2000 < zs.length
    · exact an_far nm tw th zs x y z n0 n1 n2 n3 n4 n5 n6 n7 n8 n9 n10 n11 i k j m t h v hz w hv
    · obtain ⟨p, n, c, rfl, hn⟩ : ∃ p n c, v = .slice p n c ∧ zs.length = n := by
        rcases hv with ⟨rfl, p, c, rfl⟩ | ⟨b, off, c, rfl, _⟩
        · exact ⟨p, 0, c, rfl, rfl⟩
        · exact ⟨_, _, c, rfl, rfl⟩
      exact an_near nm tw th zs x y z n0 n1 n2 n3 n4 n5 n6 n7 n8 n9 n10 n11 i k j m t h p n c hn (by omega) w hv
end Go.Proofs.Ytdemcleibpgglaa
