/- The law on view's answers, walked: for all cameras, numbers and picks of 64 bits it answers true. -/
import Derived.Test.YtoalihdempcbjaaAlive21
import Derived.Test.YtoalihdempcbjaaTilesN
namespace Go.Proofs.Ytoalihdempcbjaa
open Go.RowKit
set_option maxRecDepth 100000
set_option linter.unusedSimpArgs false
set_option linter.unusedVariables false
theorem ray_both (ax ay az fx fy fz rx ry rz dx dy dz cw ch cg cd x y a b : Int) : ∃ (p q r d e f : Int) (ok : Bool),
    (∀ w, Calls Try.prog 13 #[Cam ax ay az fx fy fz rx ry rz dx dy dz cw ch cg cd, .int .i64 x, .int .i64 y, .int .i64 a, .int .i64 b] w fun t w' => t = .returned (.tuple #[V3 p q r, V3 d e f, .bool ok]) ∧ Below w.heap.size w w') ∧
    (∀ w, Calls Try.prog 14 #[Cam ax ay az fx fy fz rx ry rz dx dy dz cw ch cg cd, .int .i64 x, .int .i64 y, .int .i64 a, .int .i64 b] w fun t w' => t = .returned (.tuple #[V3 p q r, V3 d e f, .bool ok]) ∧ Below w.heap.size w w') := by
  cases h : rayok ax ay az fx fy fz rx ry rz dx dy dz cw ch cg cd x y a b
  · exact ⟨_, _, _, _, _, _, _, fun w => ray_no ax ay az fx fy fz rx ry rz dx dy dz cw ch cg cd x y a b h w, fun w => rray_no ax ay az fx fy fz rx ry rz dx dy dz cw ch cg cd x y a b h w⟩
  · exact ⟨_, _, _, _, _, _, _, fun w => ray_yes ax ay az fx fy fz rx ry rz dx dy dz cw ch cg cd x y a b h w, fun w => rray_yes ax ay az fx fy fz rx ry rz dx dy dz cw ch cg cd x y a b h w⟩
theorem below_gb {w w' : World} (hb : Below w.heap.size w w') : w.grownBy w' none := ⟨hb.os, hb.tape, hb.output, hb.size, fun k hk _ => hb.block k hk⟩
theorem tls_below {w w' : World} {B n : Nat} {v : Value} {zs : List Int} (h : Tls w B v n zs) (hb : Below w.heap.size w w') : Tls w' B v n zs := tls_kept h (below_gb hb) (Classical.em _)
def VaRel (N S : Nat) (w : World) (k : Nat) (i : Value) (wr : World) : Prop := ∃ j, j ≤ N ∧ k = N - j ∧ i = .int .i64 (j : Int) ∧ Below S w wr
set_option maxHeartbeats 8000000 in
theorem vans_big (ax ay az fx fy fz rx ry rz dx dy dz cw ch cg cd x y a b : Int) (ps : List Int) (v : Value) (w : World) (hn : 2000 < ps.length) (hv : Ints w v ps) :
    Calls Try.prog 3 #[Cam ax ay az fx fy fz rx ry rz dx dy dz cw ch cg cd, .int .i64 x, .int .i64 y, .int .i64 a, .int .i64 b, v] w fun e w' => e = .returned (.bool true) ∧ Below w.heap.size w w' := by
  obtain ⟨p, c, rfl, _⟩ := ints_hp hv
  obtain ⟨n, hl⟩ : ∃ n, ps.length = n := ⟨_, rfl⟩
  rw [hl] at hn ⊢
  have h1 : (2000 : Int) < (n : Int) := by omega
  clear hv hl hn
  go_enter Try.func3, Try.ntmps3
  go_wp2_with (go_at_call 12; ((with_reducible refine (alive21_any _).mono ?_); rintro e w1 ⟨rfl, hb1⟩))
  go_returns
  exact ⟨by simp, by (repeat' (first | (with_reducible exact Below.refl _ _) | (with_reducible refine bstep (by with_reducible assumption) ?_) | (with_reducible refine Below.alloc ?_ ?_ _) | (with_reducible refine Below.drew ?_) | (with_reducible refine below_drewN ?_ _) | (with_reducible refine Below.setCell ?_ ?_ _) | go_size))⟩
set_option maxHeartbeats 8000000 in
theorem vans_small (ax ay az fx fy fz rx ry rz dx dy dz cw ch cg cd x y a b : Int) (ps : List Int) (v : Value) (w : World) (hn : ps.length ≤ 2000) (hv : Ints w v ps) :
    Calls Try.prog 3 #[Cam ax ay az fx fy fz rx ry rz dx dy dz cw ch cg cd, .int .i64 x, .int .i64 y, .int .i64 a, .int .i64 b, v] w fun e w' => e = .returned (.bool true) ∧ Below w.heap.size w w' := by
  obtain ⟨p1, q1, r1, d1, e1, f1, ok, R1, R2⟩ := ray_both ax ay az fx fy fz rx ry rz dx dy dz cw ch cg cd x y a b
  have T1 := Lib.hid (fun u w h => tiles_all cw ch ps u w hn h)
  have T2 := Lib.hid (fun u w h => rtiles_all cw ch ps u w hn h)
  have CP := Lib.hid (fun u w h => copyi_any ps u hn w h)
  have SI := Lib.hid (fun u t w h k => same_ints ps u t w h k)
  obtain ⟨N, hN⟩ : ∃ N, tlN cw ch = N := ⟨_, rfl⟩
  obtain ⟨t, ht⟩ : ∃ t, am2 1 64 cw ch = t := ⟨_, rfl⟩
  obtain ⟨zs, hzs⟩ : ∃ zs, tlZ cw ch ps = zs := ⟨_, rfl⟩
  rw [hN, ht, hzs] at T1 T2
  have hN2 : N ≤ 256 := by rw [← hN]; exact tlN_le _ _
  obtain ⟨p, c, rfl, _⟩ := ints_hp hv
  obtain ⟨n, hl⟩ : ∃ n, ps.length = n := ⟨_, rfl⟩
  rw [hl] at hn hv ⊢
  have h1 : ¬ ((2000 : Int) < (n : Int)) := by omega
  have HV := Lib.hid hv
  have R1 := Lib.hid R1
  have R2 := Lib.hid R2
  clear hv hl hn hN ht hzs
  go_enter Try.func3, Try.ntmps3
  go_wp2_with (first
    | (go_at_call 12; ((with_reducible refine (alive21_any _).mono ?_); rintro e w1 ⟨rfl, hb1⟩; have HB1 := Lib.hid ((by (repeat' (first | (with_reducible exact Below.refl _ _) | (with_reducible refine bstep (by with_reducible assumption) ?_) | (with_reducible refine Below.alloc ?_ ?_ _) | (with_reducible refine Below.drew ?_) | (with_reducible refine below_drewN ?_ _) | (with_reducible refine Below.setCell ?_ ?_ _) | go_size))) : Below w.heap.size w w1); have C1 : ∀ o, w1.cell? ⟨w.heap.size, o, none⟩ = (#[.int .i64 ax, .int .i64 ay, .int .i64 az, .int .i64 fx, .int .i64 fy, .int .i64 fz, .int .i64 rx, .int .i64 ry, .int .i64 rz, .int .i64 dx, .int .i64 dy, .int .i64 dz, .int .i64 cw, .int .i64 ch, .int .i64 cg, .int .i64 cd] : Array Value)[o]? := blk_later (by simp) hb1 (by (repeat (first | (with_reducible assumption) | (focus ((with_reducible refine new_at ?_ _ _); (repeat (first | (with_reducible rfl) | (with_reducible refine sz1 ?_))); done)) | (with_reducible refine blk_alloc (by simp) _ ?_) | (with_reducible refine blk_drew ?_)))); have I1 := Lib.hid (ints_later HB1.out HV.out); clear hb1))
    | (go_at_call 13; ((with_reducible refine (R1.out _).mono ?_); rintro e w2 ⟨rfl, hb2⟩; have HB2 := Lib.hid (bstep hb2 HB1.out); have C2 : ∀ o, w2.cell? ⟨w.heap.size, o, none⟩ = (#[.int .i64 ax, .int .i64 ay, .int .i64 az, .int .i64 fx, .int .i64 fy, .int .i64 fz, .int .i64 rx, .int .i64 ry, .int .i64 rz, .int .i64 dx, .int .i64 dy, .int .i64 dz, .int .i64 cw, .int .i64 ch, .int .i64 cg, .int .i64 cd] : Array Value)[o]? := blk_later (by simp) hb2 (by (repeat (first | (with_reducible assumption) | (focus ((with_reducible refine new_at ?_ _ _); (repeat (first | (with_reducible rfl) | (with_reducible refine sz1 ?_))); done)) | (with_reducible refine blk_alloc (by simp) _ ?_) | (with_reducible refine blk_drew ?_)))); have z2 : w.heap.size < w2.heap.size := blk_lt (by simp) C2; clear C1; clear hb2))
    | (go_at_call 14; ((with_reducible refine (R2.out _).mono ?_); rintro e w3 ⟨rfl, hb3⟩; have HB3 := Lib.hid (bstep hb3 ((HB2.out.alloc (Nat.le_of_lt z2) _).alloc (by rw [World.size_alloc]; omega) _)); have C3 : ∀ o, w3.cell? ⟨w.heap.size, o, none⟩ = (#[.int .i64 ax, .int .i64 ay, .int .i64 az, .int .i64 fx, .int .i64 fy, .int .i64 fz, .int .i64 rx, .int .i64 ry, .int .i64 rz, .int .i64 dx, .int .i64 dy, .int .i64 dz, .int .i64 cw, .int .i64 ch, .int .i64 cg, .int .i64 cd] : Array Value)[o]? := blk_later (by simp) hb3 (by (repeat (first | (with_reducible assumption) | (focus ((with_reducible refine new_at ?_ _ _); (repeat (first | (with_reducible rfl) | (with_reducible refine sz1 ?_))); done)) | (with_reducible refine blk_alloc (by simp) _ ?_) | (with_reducible refine blk_drew ?_)))); have O3 : ∀ o, w3.cell? ⟨w2.heap.size, o, none⟩ = (#[.int .i64 p1, .int .i64 q1, .int .i64 r1] : Array Value)[o]? := blk_later (by simp) hb3 (by (repeat (first | (with_reducible assumption) | (focus ((with_reducible refine new_at ?_ _ _); (repeat (first | (with_reducible rfl) | (with_reducible refine sz1 ?_))); done)) | (with_reducible refine blk_alloc (by simp) _ ?_) | (with_reducible refine blk_drew ?_)))); have D3 : ∀ o, w3.cell? ⟨(w2.heap.size + 1), o, none⟩ = (#[.int .i64 d1, .int .i64 e1, .int .i64 f1] : Array Value)[o]? := blk_later (by simp) hb3 (by (repeat (first | (with_reducible assumption) | (focus ((with_reducible refine new_at ?_ _ _); (repeat (first | (with_reducible rfl) | (with_reducible refine sz1 ?_))); done)) | (with_reducible refine blk_alloc (by simp) _ ?_) | (with_reducible refine blk_drew ?_)))); have z3 : w2.heap.size + 1 < w3.heap.size := blk_lt (by simp) D3; clear C2; clear hb3; have I3 := Lib.hid (ints_later HB3.out HV.out)))
    | (go_at_call 15; ((with_reducible refine (CP.out _ _ (ints_later (((Below.refl w3.heap.size w3).alloc (Nat.le_refl _) _).alloc (by rw [World.size_alloc]; omega) _) I3.out)).mono ?_); rintro e w4 ⟨u, rfl, iu, hb4⟩; have HB4 := Lib.hid (bstep hb4 ((HB3.out.alloc (by omega) _).alloc (by rw [World.size_alloc]; omega) _)); have C4 : ∀ o, w4.cell? ⟨w.heap.size, o, none⟩ = (#[.int .i64 ax, .int .i64 ay, .int .i64 az, .int .i64 fx, .int .i64 fy, .int .i64 fz, .int .i64 rx, .int .i64 ry, .int .i64 rz, .int .i64 dx, .int .i64 dy, .int .i64 dz, .int .i64 cw, .int .i64 ch, .int .i64 cg, .int .i64 cd] : Array Value)[o]? := blk_later (by simp) hb4 (by (repeat (first | (with_reducible assumption) | (focus ((with_reducible refine new_at ?_ _ _); (repeat (first | (with_reducible rfl) | (with_reducible refine sz1 ?_))); done)) | (with_reducible refine blk_alloc (by simp) _ ?_) | (with_reducible refine blk_drew ?_)))); have O4 : ∀ o, w4.cell? ⟨w2.heap.size, o, none⟩ = (#[.int .i64 p1, .int .i64 q1, .int .i64 r1] : Array Value)[o]? := blk_later (by simp) hb4 (by (repeat (first | (with_reducible assumption) | (focus ((with_reducible refine new_at ?_ _ _); (repeat (first | (with_reducible rfl) | (with_reducible refine sz1 ?_))); done)) | (with_reducible refine blk_alloc (by simp) _ ?_) | (with_reducible refine blk_drew ?_)))); have D4 : ∀ o, w4.cell? ⟨(w2.heap.size + 1), o, none⟩ = (#[.int .i64 d1, .int .i64 e1, .int .i64 f1] : Array Value)[o]? := blk_later (by simp) hb4 (by (repeat (first | (with_reducible assumption) | (focus ((with_reducible refine new_at ?_ _ _); (repeat (first | (with_reducible rfl) | (with_reducible refine sz1 ?_))); done)) | (with_reducible refine blk_alloc (by simp) _ ?_) | (with_reducible refine blk_drew ?_)))); have P4 : ∀ o, w4.cell? ⟨w3.heap.size, o, none⟩ = (#[.int .i64 p1, .int .i64 q1, .int .i64 r1] : Array Value)[o]? := blk_later (by simp) hb4 (by (repeat (first | (with_reducible assumption) | (focus ((with_reducible refine new_at ?_ _ _); (repeat (first | (with_reducible rfl) | (with_reducible refine sz1 ?_))); done)) | (with_reducible refine blk_alloc (by simp) _ ?_) | (with_reducible refine blk_drew ?_)))); have E4 : ∀ o, w4.cell? ⟨(w3.heap.size + 1), o, none⟩ = (#[.int .i64 d1, .int .i64 e1, .int .i64 f1] : Array Value)[o]? := blk_later (by simp) hb4 (by (repeat (first | (with_reducible assumption) | (focus ((with_reducible refine new_at ?_ _ _); (repeat (first | (with_reducible rfl) | (with_reducible refine sz1 ?_))); done)) | (with_reducible refine blk_alloc (by simp) _ ?_) | (with_reducible refine blk_drew ?_)))); have z4 : w3.heap.size + 1 < w4.heap.size := blk_lt (by simp) E4; clear C3 O3 D3; clear hb4; have I4 := Lib.hid (ints_later HB4.out HV.out); have U4 := Lib.hid iu; obtain ⟨pu, cu, rfl, _⟩ := ints_hp iu; clear iu))
    | (go_at_call 16; ((with_reducible refine (T1.out _ _ U4.out).mono ?_); rintro e w5 ⟨ps5, cs5, rfl, ts5, hb5⟩; have HB5 := Lib.hid (bstep hb5 HB4.out); have C5 : ∀ o, w5.cell? ⟨w.heap.size, o, none⟩ = (#[.int .i64 ax, .int .i64 ay, .int .i64 az, .int .i64 fx, .int .i64 fy, .int .i64 fz, .int .i64 rx, .int .i64 ry, .int .i64 rz, .int .i64 dx, .int .i64 dy, .int .i64 dz, .int .i64 cw, .int .i64 ch, .int .i64 cg, .int .i64 cd] : Array Value)[o]? := blk_later (by simp) hb5 (by (repeat (first | (with_reducible assumption) | (focus ((with_reducible refine new_at ?_ _ _); (repeat (first | (with_reducible rfl) | (with_reducible refine sz1 ?_))); done)) | (with_reducible refine blk_alloc (by simp) _ ?_) | (with_reducible refine blk_drew ?_)))); have O5 : ∀ o, w5.cell? ⟨w2.heap.size, o, none⟩ = (#[.int .i64 p1, .int .i64 q1, .int .i64 r1] : Array Value)[o]? := blk_later (by simp) hb5 (by (repeat (first | (with_reducible assumption) | (focus ((with_reducible refine new_at ?_ _ _); (repeat (first | (with_reducible rfl) | (with_reducible refine sz1 ?_))); done)) | (with_reducible refine blk_alloc (by simp) _ ?_) | (with_reducible refine blk_drew ?_)))); have D5 : ∀ o, w5.cell? ⟨(w2.heap.size + 1), o, none⟩ = (#[.int .i64 d1, .int .i64 e1, .int .i64 f1] : Array Value)[o]? := blk_later (by simp) hb5 (by (repeat (first | (with_reducible assumption) | (focus ((with_reducible refine new_at ?_ _ _); (repeat (first | (with_reducible rfl) | (with_reducible refine sz1 ?_))); done)) | (with_reducible refine blk_alloc (by simp) _ ?_) | (with_reducible refine blk_drew ?_)))); have P5 : ∀ o, w5.cell? ⟨w3.heap.size, o, none⟩ = (#[.int .i64 p1, .int .i64 q1, .int .i64 r1] : Array Value)[o]? := blk_later (by simp) hb5 (by (repeat (first | (with_reducible assumption) | (focus ((with_reducible refine new_at ?_ _ _); (repeat (first | (with_reducible rfl) | (with_reducible refine sz1 ?_))); done)) | (with_reducible refine blk_alloc (by simp) _ ?_) | (with_reducible refine blk_drew ?_)))); have E5 : ∀ o, w5.cell? ⟨(w3.heap.size + 1), o, none⟩ = (#[.int .i64 d1, .int .i64 e1, .int .i64 f1] : Array Value)[o]? := blk_later (by simp) hb5 (by (repeat (first | (with_reducible assumption) | (focus ((with_reducible refine new_at ?_ _ _); (repeat (first | (with_reducible rfl) | (with_reducible refine sz1 ?_))); done)) | (with_reducible refine blk_alloc (by simp) _ ?_) | (with_reducible refine blk_drew ?_)))); have z5 : w3.heap.size + 1 < w5.heap.size := blk_lt (by simp) E5; have I5 := Lib.hid (ints_later hb5 I4.out); have U5 := Lib.hid (ints_later hb5 U4.out); have TS5 := Lib.hid ts5; clear C4 O4 D4 P4 E4; clear hb5 ts5))
    | (go_at_call 17; ((with_reducible refine (T2.out _ _ I5.out).mono ?_); rintro e w6 ⟨ps6, cs6, rfl, ts6, hb6⟩; have HB6 := Lib.hid (bstep hb6 HB5.out); have C6 : ∀ o, w6.cell? ⟨w.heap.size, o, none⟩ = (#[.int .i64 ax, .int .i64 ay, .int .i64 az, .int .i64 fx, .int .i64 fy, .int .i64 fz, .int .i64 rx, .int .i64 ry, .int .i64 rz, .int .i64 dx, .int .i64 dy, .int .i64 dz, .int .i64 cw, .int .i64 ch, .int .i64 cg, .int .i64 cd] : Array Value)[o]? := blk_later (by simp) hb6 (by (repeat (first | (with_reducible assumption) | (focus ((with_reducible refine new_at ?_ _ _); (repeat (first | (with_reducible rfl) | (with_reducible refine sz1 ?_))); done)) | (with_reducible refine blk_alloc (by simp) _ ?_) | (with_reducible refine blk_drew ?_)))); have O6 : ∀ o, w6.cell? ⟨w2.heap.size, o, none⟩ = (#[.int .i64 p1, .int .i64 q1, .int .i64 r1] : Array Value)[o]? := blk_later (by simp) hb6 (by (repeat (first | (with_reducible assumption) | (focus ((with_reducible refine new_at ?_ _ _); (repeat (first | (with_reducible rfl) | (with_reducible refine sz1 ?_))); done)) | (with_reducible refine blk_alloc (by simp) _ ?_) | (with_reducible refine blk_drew ?_)))); have D6 : ∀ o, w6.cell? ⟨(w2.heap.size + 1), o, none⟩ = (#[.int .i64 d1, .int .i64 e1, .int .i64 f1] : Array Value)[o]? := blk_later (by simp) hb6 (by (repeat (first | (with_reducible assumption) | (focus ((with_reducible refine new_at ?_ _ _); (repeat (first | (with_reducible rfl) | (with_reducible refine sz1 ?_))); done)) | (with_reducible refine blk_alloc (by simp) _ ?_) | (with_reducible refine blk_drew ?_)))); have P6 : ∀ o, w6.cell? ⟨w3.heap.size, o, none⟩ = (#[.int .i64 p1, .int .i64 q1, .int .i64 r1] : Array Value)[o]? := blk_later (by simp) hb6 (by (repeat (first | (with_reducible assumption) | (focus ((with_reducible refine new_at ?_ _ _); (repeat (first | (with_reducible rfl) | (with_reducible refine sz1 ?_))); done)) | (with_reducible refine blk_alloc (by simp) _ ?_) | (with_reducible refine blk_drew ?_)))); have E6 : ∀ o, w6.cell? ⟨(w3.heap.size + 1), o, none⟩ = (#[.int .i64 d1, .int .i64 e1, .int .i64 f1] : Array Value)[o]? := blk_later (by simp) hb6 (by (repeat (first | (with_reducible assumption) | (focus ((with_reducible refine new_at ?_ _ _); (repeat (first | (with_reducible rfl) | (with_reducible refine sz1 ?_))); done)) | (with_reducible refine blk_alloc (by simp) _ ?_) | (with_reducible refine blk_drew ?_)))); have z6 : w3.heap.size + 1 < w6.heap.size := blk_lt (by simp) E6; have I6 := Lib.hid (ints_later hb6 I5.out); have U6 := Lib.hid (ints_later hb6 U5.out); have TS6 := Lib.hid (tls_below TS5.out hb6); have TT6 := Lib.hid ts6; clear C5 O5 D5 P5 E5; clear hb6 ts6))
    | (go_at_call 18; ((with_reducible refine (SI.out _ _ _ U6.out I6.out).mono ?_); rintro e w7 ⟨rfl, hb7⟩; have HB7 := Lib.hid (bstep hb7 HB6.out); have z7 : w3.heap.size + 1 < w7.heap.size := Nat.lt_of_lt_of_le z6 hb7.size; have TS7 := Lib.hid (tls_below TS6.out hb7); have TT7 := Lib.hid (tls_below TT6.out hb7); clear C6 O6 D6 P6 E6; clear hb7)))
  go_loopg [24] N (fun k i wr => VaRel N w7.heap.size w7 k i wr)
  case atStart => exact ⟨0, by omega, rfl, rfl, Below.refl _ _⟩
  case round =>
    obtain ⟨j, hj, rfl, rfl, hb⟩ := hrel
    have HB := Lib.hid (bstep hb HB7.out)
    have HBW := Lib.hid hb
    by_cases hlt' : j < N
    · obtain ⟨g, cap, e, hg, hl⟩ := tls_form TS7.out (by omega)
      obtain ⟨rfl, rfl⟩ : ps5 = some ⟨g, 0, none⟩ ∧ cs5 = cap := by simpa using e
      obtain ⟨g', cap', e', hg', hl'⟩ := tls_form TT7.out (by omega)
      obtain ⟨rfl, rfl⟩ : ps6 = some ⟨g', 0, none⟩ ∧ cs6 = cap' := by simpa using e'
      obtain ⟨_, _, _, _, _, hc, _⟩ := tls_cell TS7.out
      obtain ⟨_, _, _, _, _, hc', _⟩ := tls_cell TT7.out
      have x0 := (hb.cell (p := ⟨g, j * 4, none⟩) hl).trans (hc (j * 4) (by omega))
      have x1 := (hb.cell (p := ⟨g, j * 4 + 1, none⟩) hl).trans (hc (j * 4 + 1) (by omega))
      have x2 := (hb.cell (p := ⟨g, j * 4 + 2, none⟩) hl).trans (hc (j * 4 + 2) (by omega))
      have x3 := (hb.cell (p := ⟨g, j * 4 + 3, none⟩) hl).trans (hc (j * 4 + 3) (by omega))
      have y0 := (hb.cell (p := ⟨g', j * 4, none⟩) hl').trans (hc' (j * 4) (by omega))
      have y1 := (hb.cell (p := ⟨g', j * 4 + 1, none⟩) hl').trans (hc' (j * 4 + 1) (by omega))
      have y2 := (hb.cell (p := ⟨g', j * 4 + 2, none⟩) hl').trans (hc' (j * 4 + 2) (by omega))
      have y3 := (hb.cell (p := ⟨g', j * 4 + 3, none⟩) hl').trans (hc' (j * 4 + 3) (by omega))
      have hj0 : (0 : Int) ≤ (j : Int) := by omega
      have hj1 : (j : Int) < (N : Int) := by omega
      generalize zs.getD (j * 4) 0 = X0 at x0 y0
      generalize zs.getD (j * 4 + 1) 0 = X1 at x1 y1
      generalize zs.getD (j * 4 + 2) 0 = X2 at x2 y2
      generalize zs.getD (j * 4 + 3) 0 = X3 at x3 y3
      clear hb hc hc' e e'
      go_wp2_with fail
      go_quiet (fail)
      go_wp2_with fail
      have HB' := HBW.out
      go_roundg (N - (j + 1))
      case measure => omega
      case rel => exact ⟨j + 1, by omega, rfl, by first | (simp; done) | (simp; exact w64 (by omega) (by omega)), by (repeat' (first | (with_reducible exact Below.refl _ _) | (with_reducible refine bstep (by with_reducible assumption) ?_) | (with_reducible refine Below.alloc ?_ ?_ _) | (with_reducible refine Below.drew ?_) | (with_reducible refine below_drewN ?_ _) | (with_reducible refine Below.setCell ?_ ?_ _) | go_size))⟩
    · obtain rfl : j = N := by omega
      have hj1 : ¬ ((j : Int) < (j : Int)) := by omega
      clear hb
      go_wp2_with fail
      have HB' := HB.out
      go_returns
      exact ⟨by simp, by (repeat' (first | (with_reducible exact Below.refl _ _) | (with_reducible refine bstep (by with_reducible assumption) ?_) | (with_reducible refine Below.alloc ?_ ?_ _) | (with_reducible refine Below.drew ?_) | (with_reducible refine below_drewN ?_ _) | (with_reducible refine Below.setCell ?_ ?_ _) | go_size))⟩
theorem viewAnswers_walk (xs : List Int) (hl : xs.length = 16) (_ : ∀ x ∈ xs, I64 x) (x : Int) (_ : I64 x) (y : Int) (_ : I64 y) (a : Int) (_ : I64 a) (b : Int) (_ : I64 b) (v : Value) (zs : List Int) (_ : ∀ z ∈ zs, I64 z) (w : World) (hv : Ints w v zs) :
    Calls Try.prog 3 #[.agg (xs.map (Value.int .i64)).toArray, .int .i64 x, .int .i64 y, .int .i64 a, .int .i64 b, v] w fun e w' => e = .returned (.bool true) ∧ Below w.heap.size w w' := by
  match xs, hl with
  | [ax, ay, az, fx, fy, fz, rx, ry, rz, dx, dy, dz, cw, ch, cg, cd], _ =>
    rcases Nat.lt_or_ge 2000 zs.length with h | h
    · exact vans_big ax ay az fx fy fz rx ry rz dx dy dz cw ch cg cd x y a b zs v w h hv
    · exact vans_small ax ay az fx fy fz rx ry rz dx dy dz cw ch cg cd x y a b zs v w h hv
end Go.Proofs.Ytoalihdempcbjaa
