/- What view.Ray answers, for all cameras and numbers of 64 bits. -/
import Derived.Test.YtoalihdempcbjaaAmong
import Derived.Test.YtoalihdempcbjaaSet
import Derived.Test.YtoalihdempcbjaaQuiet
import Derived.Test.YtoalihdempcbjaaHeld
import Derived.IntWalk
namespace Go.Proofs.Ytoalihdempcbjaa
open Go.RowKit
set_option maxRecDepth 100000
set_option linter.unusedSimpArgs false
set_option linter.unusedVariables false
theorem within_v {x y z m : Int} {b : Bool} (h : inB x y z m = b) : ∀ w, Calls Try.prog 27 #[V3 x y z, .int .i64 m] w fun e w' => e = .returned (.bool b) ∧ Below w.heap.size w w' := by
  subst h; exact within_any x y z m
theorem mul_le {a b A B : Int} (h0 : 0 ≤ a) (h1 : a ≤ A) (h2 : 0 ≤ b) (h3 : b ≤ B) : 0 ≤ a * b ∧ a * b ≤ A * B :=
  ⟨Int.mul_nonneg h0 h2, Int.mul_le_mul h1 h3 h2 (by omega)⟩
theorem mul_in {a b : Int} (ha : -1024 ≤ a ∧ a ≤ 1024) (hb : 0 ≤ b ∧ b ≤ 255) : -261120 ≤ a * b ∧ a * b ≤ 261120 := by
  have h1 := Int.mul_le_mul_of_nonneg_right ha.1 hb.1
  have h2 := Int.mul_le_mul_of_nonneg_right ha.2 hb.1
  omega
/-- A camera, as a value. -/
abbrev Cam (ax ay az fx fy fz rx ry rz dx dy dz cw ch cg cd : Int) : Value := .agg (#[.int .i64 ax, .int .i64 ay, .int .i64 az, .int .i64 fx, .int .i64 fy, .int .i64 fz, .int .i64 rx, .int .i64 ry, .int .i64 rz, .int .i64 dx, .int .i64 dy, .int .i64 dz, .int .i64 cw, .int .i64 ch, .int .i64 cg, .int .i64 cd] : Array Value)
def rayok (ax ay az fx fy fz rx ry rz dx dy dz cw ch cg cd x y a b : Int) : Bool := am2 1 64 cw ch && am1 1 4 cg && inB ax ay az 1048576 && inB fx fy fz 1048576 && inB rx ry rz 1024 && inB dx dy dz 1024 && am1 0 (cw - 1) x && am1 0 (ch - 1) y && am2 0 (cg - 1) a b
/-- A part of a ray's direction. -/
def rayd (f r d cg x y a b : Int) : Int := f + r * (x * cg + a) + d * (y * cg + b)
theorem swap_blk {W : World} {b : Nat} {x y : Obj} {cs : Array Value} (h : ∀ o, (W.alloc x).cell? ⟨b, o, none⟩ = cs[o]?) (hl : b < W.heap.size) : ∀ o, (W.alloc y).cell? ⟨b, o, none⟩ = cs[o]? := fun o =>
  (((Below.refl W.heap.size W).alloc (Nat.le_refl _) y).cell (p := ⟨b, o, none⟩) hl).trans ((((Below.refl W.heap.size W).alloc (Nat.le_refl _) x).cell (p := ⟨b, o, none⟩) hl).symm.trans (h o))
set_option maxHeartbeats 8000000 in
theorem ray_no1 (ax ay az fx fy fz rx ry rz dx dy dz cw ch cg cd x y a b : Int) (h1 : am2 1 64 cw ch = false) (w : World) :
    Calls Try.prog 13 #[Cam ax ay az fx fy fz rx ry rz dx dy dz cw ch cg cd, .int .i64 x, .int .i64 y, .int .i64 a, .int .i64 b] w fun e w' => e = .returned (.tuple #[V3 0 0 0, V3 0 0 0, .bool false]) ∧ Below w.heap.size w w' := by
  have H1 := Lib.hid h1
  clear h1
  go_enter Try.func13, Try.ntmps13
  go_wp2_with (first
    | (go_at_call 26; ((with_reducible refine (among2 1 64 cw ch false H1.out _ _ (by (repeat (first | (with_reducible assumption) | (focus ((with_reducible refine new_at ?_ _ _); (repeat (first | (with_reducible rfl) | (with_reducible refine sz1 ?_))); done)) | (with_reducible refine blk_alloc (by simp) _ ?_) | (with_reducible refine blk_drew ?_))))).mono ?_); rintro e v1 ⟨rfl, hb1⟩; have C1 : ∀ o, v1.cell? ⟨w.heap.size, o, none⟩ = (#[.int .i64 ax, .int .i64 ay, .int .i64 az, .int .i64 fx, .int .i64 fy, .int .i64 fz, .int .i64 rx, .int .i64 ry, .int .i64 rz, .int .i64 dx, .int .i64 dy, .int .i64 dz, .int .i64 cw, .int .i64 ch, .int .i64 cg, .int .i64 cd] : Array Value)[o]? := blk_later (by simp) hb1 (by (repeat (first | (with_reducible assumption) | (focus ((with_reducible refine new_at ?_ _ _); (repeat (first | (with_reducible rfl) | (with_reducible refine sz1 ?_))); done)) | (with_reducible refine blk_alloc (by simp) _ ?_) | (with_reducible refine blk_drew ?_)))); have Z1 : ∀ o, v1.cell? ⟨w.heap.size + 1, o, none⟩ = (#[.int .i64 0, .int .i64 0, .int .i64 0] : Array Value)[o]? := blk_later (by simp) hb1 (by (repeat (first | (with_reducible assumption) | (focus ((with_reducible refine new_at ?_ _ _); (repeat (first | (with_reducible rfl) | (with_reducible refine sz1 ?_))); done)) | (with_reducible refine blk_alloc (by simp) _ ?_) | (with_reducible refine blk_drew ?_)))); have Y1 : ∀ o, v1.cell? ⟨w.heap.size + 1 + 1, o, none⟩ = (#[.int .i64 0, .int .i64 0, .int .i64 0] : Array Value)[o]? := blk_later (by simp) hb1 (by (repeat (first | (with_reducible assumption) | (focus ((with_reducible refine new_at ?_ _ _); (repeat (first | (with_reducible rfl) | (with_reducible refine sz1 ?_))); done)) | (with_reducible refine blk_alloc (by simp) _ ?_) | (with_reducible refine blk_drew ?_)))); have F1 : ∀ o, v1.frozen? ⟨w.heap.size + 1, o, none⟩ = false := fro_call hb1 (by (repeat (first | (with_reducible assumption) | (focus ((with_reducible refine fro_new ?_ _ _); (repeat (first | (with_reducible rfl) | (with_reducible refine sz1 ?_))); done)) | ((with_reducible refine fro_more ?_ _ ?_); (repeat (first | (with_reducible assumption) | (focus ((with_reducible refine lt_new ?_); (repeat (first | (with_reducible rfl) | (with_reducible refine sz1 ?_))); done)) | (with_reducible refine lt_here ?_))))))) (by (repeat (first | (with_reducible assumption) | (focus ((with_reducible refine lt_new ?_); (repeat (first | (with_reducible rfl) | (with_reducible refine sz1 ?_))); done)) | (with_reducible refine lt_here ?_)))); have G1 : ∀ o, v1.frozen? ⟨w.heap.size + 1 + 1, o, none⟩ = false := fro_call hb1 (by (repeat (first | (with_reducible assumption) | (focus ((with_reducible refine fro_new ?_ _ _); (repeat (first | (with_reducible rfl) | (with_reducible refine sz1 ?_))); done)) | ((with_reducible refine fro_more ?_ _ ?_); (repeat (first | (with_reducible assumption) | (focus ((with_reducible refine lt_new ?_); (repeat (first | (with_reducible rfl) | (with_reducible refine sz1 ?_))); done)) | (with_reducible refine lt_here ?_))))))) (by (repeat (first | (with_reducible assumption) | (focus ((with_reducible refine lt_new ?_); (repeat (first | (with_reducible rfl) | (with_reducible refine sz1 ?_))); done)) | (with_reducible refine lt_here ?_)))); have s1c : w.heap.size < v1.heap.size := blk_lt (by simp) C1; have s1z : w.heap.size + 1 < v1.heap.size := blk_lt (by simp) Z1; have s1y : w.heap.size + 1 + 1 < v1.heap.size := blk_lt (by simp) Y1)))
  have ny : w.heap.size + 1 + 1 ≠ w.heap.size + 1 := by omega
  have nz : w.heap.size + 1 ≠ w.heap.size + 1 + 1 := by omega
  have KZ := st3_far (i := 0) (j := 1) (k := 2) (u := .int .i64 0) (v := .int .i64 0) (x := .int .i64 0) ny (st3_blk (cs' := (#[.int .i64 0, .int .i64 0, .int .i64 0] : Array Value)) (i := 0) (j := 1) (k := 2) (u := .int .i64 0) (v := .int .i64 0) (x := .int .i64 0) Z1 (by simp) (by simp) (by simp) rfl)
  have KY := st3_blk (cs' := (#[.int .i64 0, .int .i64 0, .int .i64 0] : Array Value)) (i := 0) (j := 1) (k := 2) (u := .int .i64 0) (v := .int .i64 0) (x := .int .i64 0) (st3_far (i := 0) (j := 1) (k := 2) (u := .int .i64 0) (v := .int .i64 0) (x := .int .i64 0) nz Y1) (by simp) (by simp) (by simp) rfl
  have kz0 := KZ 0
  have ky0 := KY 0
  have kz1 := KZ 1
  have ky1 := KY 1
  have kz2 := KZ 2
  have ky2 := KY 2
  clear KZ KY
  refine bodyPost_ret (v := .tuple #[V3 0 0 0, V3 0 0 0, .bool false]) (by simp [results, Try.results13, go_sem, kz0, kz1, kz2, ky0, ky1, ky2]) rfl ?_
  exact ⟨rfl, by (repeat' (first | (with_reducible exact Below.refl _ _) | (with_reducible refine bstep (by with_reducible assumption) ?_) | (with_reducible refine Below.alloc ?_ ?_ _) | (with_reducible refine Below.drew ?_) | (with_reducible refine below_drewN ?_ _) | (with_reducible refine Below.setCell ?_ ?_ _) | go_size))⟩
set_option maxHeartbeats 8000000 in
theorem ray_no2 (ax ay az fx fy fz rx ry rz dx dy dz cw ch cg cd x y a b : Int) (h1 : am2 1 64 cw ch = true) (h2 : am1 1 4 cg = false) (w : World) :
    Calls Try.prog 13 #[Cam ax ay az fx fy fz rx ry rz dx dy dz cw ch cg cd, .int .i64 x, .int .i64 y, .int .i64 a, .int .i64 b] w fun e w' => e = .returned (.tuple #[V3 0 0 0, V3 0 0 0, .bool false]) ∧ Below w.heap.size w w' := by
  have g1 := am2_iff.1 h1
  have nw : IntKind.i64.wrap (cw - 1) = cw - 1 := IntWalk.i64_in _ (by omega)
  have nh : IntKind.i64.wrap (ch - 1) = ch - 1 := IntWalk.i64_in _ (by omega)
  have H1 := Lib.hid h1
  have H2 := Lib.hid h2
  clear h1 h2 g1
  go_enter Try.func13, Try.ntmps13
  go_wp2_with (first
    | (go_at_call 26; ((with_reducible refine (among2 1 64 cw ch true H1.out _ _ (by (repeat (first | (with_reducible assumption) | (focus ((with_reducible refine new_at ?_ _ _); (repeat (first | (with_reducible rfl) | (with_reducible refine sz1 ?_))); done)) | (with_reducible refine blk_alloc (by simp) _ ?_) | (with_reducible refine blk_drew ?_))))).mono ?_); rintro e v1 ⟨rfl, hb1⟩; have C1 : ∀ o, v1.cell? ⟨w.heap.size, o, none⟩ = (#[.int .i64 ax, .int .i64 ay, .int .i64 az, .int .i64 fx, .int .i64 fy, .int .i64 fz, .int .i64 rx, .int .i64 ry, .int .i64 rz, .int .i64 dx, .int .i64 dy, .int .i64 dz, .int .i64 cw, .int .i64 ch, .int .i64 cg, .int .i64 cd] : Array Value)[o]? := blk_later (by simp) hb1 (by (repeat (first | (with_reducible assumption) | (focus ((with_reducible refine new_at ?_ _ _); (repeat (first | (with_reducible rfl) | (with_reducible refine sz1 ?_))); done)) | (with_reducible refine blk_alloc (by simp) _ ?_) | (with_reducible refine blk_drew ?_)))); have Z1 : ∀ o, v1.cell? ⟨w.heap.size + 1, o, none⟩ = (#[.int .i64 0, .int .i64 0, .int .i64 0] : Array Value)[o]? := blk_later (by simp) hb1 (by (repeat (first | (with_reducible assumption) | (focus ((with_reducible refine new_at ?_ _ _); (repeat (first | (with_reducible rfl) | (with_reducible refine sz1 ?_))); done)) | (with_reducible refine blk_alloc (by simp) _ ?_) | (with_reducible refine blk_drew ?_)))); have Y1 : ∀ o, v1.cell? ⟨w.heap.size + 1 + 1, o, none⟩ = (#[.int .i64 0, .int .i64 0, .int .i64 0] : Array Value)[o]? := blk_later (by simp) hb1 (by (repeat (first | (with_reducible assumption) | (focus ((with_reducible refine new_at ?_ _ _); (repeat (first | (with_reducible rfl) | (with_reducible refine sz1 ?_))); done)) | (with_reducible refine blk_alloc (by simp) _ ?_) | (with_reducible refine blk_drew ?_)))); have F1 : ∀ o, v1.frozen? ⟨w.heap.size + 1, o, none⟩ = false := fro_call hb1 (by (repeat (first | (with_reducible assumption) | (focus ((with_reducible refine fro_new ?_ _ _); (repeat (first | (with_reducible rfl) | (with_reducible refine sz1 ?_))); done)) | ((with_reducible refine fro_more ?_ _ ?_); (repeat (first | (with_reducible assumption) | (focus ((with_reducible refine lt_new ?_); (repeat (first | (with_reducible rfl) | (with_reducible refine sz1 ?_))); done)) | (with_reducible refine lt_here ?_))))))) (by (repeat (first | (with_reducible assumption) | (focus ((with_reducible refine lt_new ?_); (repeat (first | (with_reducible rfl) | (with_reducible refine sz1 ?_))); done)) | (with_reducible refine lt_here ?_)))); have G1 : ∀ o, v1.frozen? ⟨w.heap.size + 1 + 1, o, none⟩ = false := fro_call hb1 (by (repeat (first | (with_reducible assumption) | (focus ((with_reducible refine fro_new ?_ _ _); (repeat (first | (with_reducible rfl) | (with_reducible refine sz1 ?_))); done)) | ((with_reducible refine fro_more ?_ _ ?_); (repeat (first | (with_reducible assumption) | (focus ((with_reducible refine lt_new ?_); (repeat (first | (with_reducible rfl) | (with_reducible refine sz1 ?_))); done)) | (with_reducible refine lt_here ?_))))))) (by (repeat (first | (with_reducible assumption) | (focus ((with_reducible refine lt_new ?_); (repeat (first | (with_reducible rfl) | (with_reducible refine sz1 ?_))); done)) | (with_reducible refine lt_here ?_)))); have s1c : w.heap.size < v1.heap.size := blk_lt (by simp) C1; have s1z : w.heap.size + 1 < v1.heap.size := blk_lt (by simp) Z1; have s1y : w.heap.size + 1 + 1 < v1.heap.size := blk_lt (by simp) Y1))
    | (go_at_call 26; ((with_reducible refine (among1 1 4 cg false H2.out _ _ (new_at rfl _ _)).mono ?_); rintro e v2 ⟨rfl, hb2⟩; have C2 := blk_later (by simp) hb2 (blk_alloc (by simp) _ C1); have Z2 := blk_later (by simp) hb2 (blk_alloc (by simp) _ Z1); have Y2 := blk_later (by simp) hb2 (blk_alloc (by simp) _ Y1); have F2 := fro_call hb2 (fro_more s1z _ F1) (lt_here s1z); have G2 := fro_call hb2 (fro_more s1y _ G1) (lt_here s1y); have s2c : w.heap.size < v2.heap.size := blk_lt (by simp) C2; have s2z : w.heap.size + 1 < v2.heap.size := blk_lt (by simp) Z2; have s2y : w.heap.size + 1 + 1 < v2.heap.size := blk_lt (by simp) Y2; clear C1 Z1 Y1 F1 G1)))
  have ny : w.heap.size + 1 + 1 ≠ w.heap.size + 1 := by omega
  have nz : w.heap.size + 1 ≠ w.heap.size + 1 + 1 := by omega
  have KZ := st3_far (i := 0) (j := 1) (k := 2) (u := .int .i64 0) (v := .int .i64 0) (x := .int .i64 0) ny (st3_blk (cs' := (#[.int .i64 0, .int .i64 0, .int .i64 0] : Array Value)) (i := 0) (j := 1) (k := 2) (u := .int .i64 0) (v := .int .i64 0) (x := .int .i64 0) Z2 (by simp) (by simp) (by simp) rfl)
  have KY := st3_blk (cs' := (#[.int .i64 0, .int .i64 0, .int .i64 0] : Array Value)) (i := 0) (j := 1) (k := 2) (u := .int .i64 0) (v := .int .i64 0) (x := .int .i64 0) (st3_far (i := 0) (j := 1) (k := 2) (u := .int .i64 0) (v := .int .i64 0) (x := .int .i64 0) nz Y2) (by simp) (by simp) (by simp) rfl
  have kz0 := KZ 0
  have ky0 := KY 0
  have kz1 := KZ 1
  have ky1 := KY 1
  have kz2 := KZ 2
  have ky2 := KY 2
  clear KZ KY
  refine bodyPost_ret (v := .tuple #[V3 0 0 0, V3 0 0 0, .bool false]) (by simp [results, Try.results13, go_sem, kz0, kz1, kz2, ky0, ky1, ky2]) rfl ?_
  exact ⟨rfl, by (repeat' (first | (with_reducible exact Below.refl _ _) | (with_reducible refine bstep (by with_reducible assumption) ?_) | (with_reducible refine Below.alloc ?_ ?_ _) | (with_reducible refine Below.drew ?_) | (with_reducible refine below_drewN ?_ _) | (with_reducible refine Below.setCell ?_ ?_ _) | go_size))⟩
set_option maxHeartbeats 8000000 in
theorem ray_no3 (ax ay az fx fy fz rx ry rz dx dy dz cw ch cg cd x y a b : Int) (h1 : am2 1 64 cw ch = true) (h2 : am1 1 4 cg = true) (h3 : inB ax ay az 1048576 = false) (w : World) :
    Calls Try.prog 13 #[Cam ax ay az fx fy fz rx ry rz dx dy dz cw ch cg cd, .int .i64 x, .int .i64 y, .int .i64 a, .int .i64 b] w fun e w' => e = .returned (.tuple #[V3 0 0 0, V3 0 0 0, .bool false]) ∧ Below w.heap.size w w' := by
  have g1 := am2_iff.1 h1
  have nw : IntKind.i64.wrap (cw - 1) = cw - 1 := IntWalk.i64_in _ (by omega)
  have nh : IntKind.i64.wrap (ch - 1) = ch - 1 := IntWalk.i64_in _ (by omega)
  have g2 := am1_iff.1 h2
  have ng : IntKind.i64.wrap (cg - 1) = cg - 1 := IntWalk.i64_in _ (by omega)
  have H1 := Lib.hid h1
  have H2 := Lib.hid h2
  have H3 := Lib.hid h3
  clear h1 h2 h3 g1 g2
  go_enter Try.func13, Try.ntmps13
  go_wp2_with (first
    | (go_at_call 26; ((with_reducible refine (among2 1 64 cw ch true H1.out _ _ (by (repeat (first | (with_reducible assumption) | (focus ((with_reducible refine new_at ?_ _ _); (repeat (first | (with_reducible rfl) | (with_reducible refine sz1 ?_))); done)) | (with_reducible refine blk_alloc (by simp) _ ?_) | (with_reducible refine blk_drew ?_))))).mono ?_); rintro e v1 ⟨rfl, hb1⟩; have C1 : ∀ o, v1.cell? ⟨w.heap.size, o, none⟩ = (#[.int .i64 ax, .int .i64 ay, .int .i64 az, .int .i64 fx, .int .i64 fy, .int .i64 fz, .int .i64 rx, .int .i64 ry, .int .i64 rz, .int .i64 dx, .int .i64 dy, .int .i64 dz, .int .i64 cw, .int .i64 ch, .int .i64 cg, .int .i64 cd] : Array Value)[o]? := blk_later (by simp) hb1 (by (repeat (first | (with_reducible assumption) | (focus ((with_reducible refine new_at ?_ _ _); (repeat (first | (with_reducible rfl) | (with_reducible refine sz1 ?_))); done)) | (with_reducible refine blk_alloc (by simp) _ ?_) | (with_reducible refine blk_drew ?_)))); have Z1 : ∀ o, v1.cell? ⟨w.heap.size + 1, o, none⟩ = (#[.int .i64 0, .int .i64 0, .int .i64 0] : Array Value)[o]? := blk_later (by simp) hb1 (by (repeat (first | (with_reducible assumption) | (focus ((with_reducible refine new_at ?_ _ _); (repeat (first | (with_reducible rfl) | (with_reducible refine sz1 ?_))); done)) | (with_reducible refine blk_alloc (by simp) _ ?_) | (with_reducible refine blk_drew ?_)))); have Y1 : ∀ o, v1.cell? ⟨w.heap.size + 1 + 1, o, none⟩ = (#[.int .i64 0, .int .i64 0, .int .i64 0] : Array Value)[o]? := blk_later (by simp) hb1 (by (repeat (first | (with_reducible assumption) | (focus ((with_reducible refine new_at ?_ _ _); (repeat (first | (with_reducible rfl) | (with_reducible refine sz1 ?_))); done)) | (with_reducible refine blk_alloc (by simp) _ ?_) | (with_reducible refine blk_drew ?_)))); have F1 : ∀ o, v1.frozen? ⟨w.heap.size + 1, o, none⟩ = false := fro_call hb1 (by (repeat (first | (with_reducible assumption) | (focus ((with_reducible refine fro_new ?_ _ _); (repeat (first | (with_reducible rfl) | (with_reducible refine sz1 ?_))); done)) | ((with_reducible refine fro_more ?_ _ ?_); (repeat (first | (with_reducible assumption) | (focus ((with_reducible refine lt_new ?_); (repeat (first | (with_reducible rfl) | (with_reducible refine sz1 ?_))); done)) | (with_reducible refine lt_here ?_))))))) (by (repeat (first | (with_reducible assumption) | (focus ((with_reducible refine lt_new ?_); (repeat (first | (with_reducible rfl) | (with_reducible refine sz1 ?_))); done)) | (with_reducible refine lt_here ?_)))); have G1 : ∀ o, v1.frozen? ⟨w.heap.size + 1 + 1, o, none⟩ = false := fro_call hb1 (by (repeat (first | (with_reducible assumption) | (focus ((with_reducible refine fro_new ?_ _ _); (repeat (first | (with_reducible rfl) | (with_reducible refine sz1 ?_))); done)) | ((with_reducible refine fro_more ?_ _ ?_); (repeat (first | (with_reducible assumption) | (focus ((with_reducible refine lt_new ?_); (repeat (first | (with_reducible rfl) | (with_reducible refine sz1 ?_))); done)) | (with_reducible refine lt_here ?_))))))) (by (repeat (first | (with_reducible assumption) | (focus ((with_reducible refine lt_new ?_); (repeat (first | (with_reducible rfl) | (with_reducible refine sz1 ?_))); done)) | (with_reducible refine lt_here ?_)))); have s1c : w.heap.size < v1.heap.size := blk_lt (by simp) C1; have s1z : w.heap.size + 1 < v1.heap.size := blk_lt (by simp) Z1; have s1y : w.heap.size + 1 + 1 < v1.heap.size := blk_lt (by simp) Y1))
    | (go_at_call 26; ((with_reducible refine (among1 1 4 cg true H2.out _ _ (new_at rfl _ _)).mono ?_); rintro e v2 ⟨rfl, hb2⟩; have C2 := blk_later (by simp) hb2 (blk_alloc (by simp) _ C1); have Z2 := blk_later (by simp) hb2 (blk_alloc (by simp) _ Z1); have Y2 := blk_later (by simp) hb2 (blk_alloc (by simp) _ Y1); have F2 := fro_call hb2 (fro_more s1z _ F1) (lt_here s1z); have G2 := fro_call hb2 (fro_more s1y _ G1) (lt_here s1y); have s2c : w.heap.size < v2.heap.size := blk_lt (by simp) C2; have s2z : w.heap.size + 1 < v2.heap.size := blk_lt (by simp) Z2; have s2y : w.heap.size + 1 + 1 < v2.heap.size := blk_lt (by simp) Y2; clear C1 Z1 Y1 F1 G1))
    | (go_at_call 27; ((with_reducible refine ((within_v H3.out) _).mono ?_); rintro e v3 ⟨rfl, hb3⟩; have C3 := blk_later (by simp) hb3 C2; have Z3 := blk_later (by simp) hb3 Z2; have Y3 := blk_later (by simp) hb3 Y2; have F3 := fro_call hb3 F2 s2z; have G3 := fro_call hb3 G2 s2y; have s3c : w.heap.size < v3.heap.size := blk_lt (by simp) C3; have s3z : w.heap.size + 1 < v3.heap.size := blk_lt (by simp) Z3; have s3y : w.heap.size + 1 + 1 < v3.heap.size := blk_lt (by simp) Y3; clear C2 Z2 Y2 F2 G2)))
  have ny : w.heap.size + 1 + 1 ≠ w.heap.size + 1 := by omega
  have nz : w.heap.size + 1 ≠ w.heap.size + 1 + 1 := by omega
  have KZ := st3_far (i := 0) (j := 1) (k := 2) (u := .int .i64 0) (v := .int .i64 0) (x := .int .i64 0) ny (st3_blk (cs' := (#[.int .i64 0, .int .i64 0, .int .i64 0] : Array Value)) (i := 0) (j := 1) (k := 2) (u := .int .i64 0) (v := .int .i64 0) (x := .int .i64 0) Z3 (by simp) (by simp) (by simp) rfl)
  have KY := st3_blk (cs' := (#[.int .i64 0, .int .i64 0, .int .i64 0] : Array Value)) (i := 0) (j := 1) (k := 2) (u := .int .i64 0) (v := .int .i64 0) (x := .int .i64 0) (st3_far (i := 0) (j := 1) (k := 2) (u := .int .i64 0) (v := .int .i64 0) (x := .int .i64 0) nz Y3) (by simp) (by simp) (by simp) rfl
  have kz0 := KZ 0
  have ky0 := KY 0
  have kz1 := KZ 1
  have ky1 := KY 1
  have kz2 := KZ 2
  have ky2 := KY 2
  clear KZ KY
  refine bodyPost_ret (v := .tuple #[V3 0 0 0, V3 0 0 0, .bool false]) (by simp [results, Try.results13, go_sem, kz0, kz1, kz2, ky0, ky1, ky2]) rfl ?_
  exact ⟨rfl, by (repeat' (first | (with_reducible exact Below.refl _ _) | (with_reducible refine bstep (by with_reducible assumption) ?_) | (with_reducible refine Below.alloc ?_ ?_ _) | (with_reducible refine Below.drew ?_) | (with_reducible refine below_drewN ?_ _) | (with_reducible refine Below.setCell ?_ ?_ _) | go_size))⟩
set_option maxHeartbeats 8000000 in
theorem ray_no4 (ax ay az fx fy fz rx ry rz dx dy dz cw ch cg cd x y a b : Int) (h1 : am2 1 64 cw ch = true) (h2 : am1 1 4 cg = true) (h3 : inB ax ay az 1048576 = true) (h4 : inB fx fy fz 1048576 = false) (w : World) :
    Calls Try.prog 13 #[Cam ax ay az fx fy fz rx ry rz dx dy dz cw ch cg cd, .int .i64 x, .int .i64 y, .int .i64 a, .int .i64 b] w fun e w' => e = .returned (.tuple #[V3 0 0 0, V3 0 0 0, .bool false]) ∧ Below w.heap.size w w' := by
  have g1 := am2_iff.1 h1
  have nw : IntKind.i64.wrap (cw - 1) = cw - 1 := IntWalk.i64_in _ (by omega)
  have nh : IntKind.i64.wrap (ch - 1) = ch - 1 := IntWalk.i64_in _ (by omega)
  have g2 := am1_iff.1 h2
  have ng : IntKind.i64.wrap (cg - 1) = cg - 1 := IntWalk.i64_in _ (by omega)
  have H1 := Lib.hid h1
  have H2 := Lib.hid h2
  have H3 := Lib.hid h3
  have H4 := Lib.hid h4
  clear h1 h2 h3 h4 g1 g2
  go_enter Try.func13, Try.ntmps13
  go_wp2_with (first
    | (go_at_call 26; ((with_reducible refine (among2 1 64 cw ch true H1.out _ _ (by (repeat (first | (with_reducible assumption) | (focus ((with_reducible refine new_at ?_ _ _); (repeat (first | (with_reducible rfl) | (with_reducible refine sz1 ?_))); done)) | (with_reducible refine blk_alloc (by simp) _ ?_) | (with_reducible refine blk_drew ?_))))).mono ?_); rintro e v1 ⟨rfl, hb1⟩; have C1 : ∀ o, v1.cell? ⟨w.heap.size, o, none⟩ = (#[.int .i64 ax, .int .i64 ay, .int .i64 az, .int .i64 fx, .int .i64 fy, .int .i64 fz, .int .i64 rx, .int .i64 ry, .int .i64 rz, .int .i64 dx, .int .i64 dy, .int .i64 dz, .int .i64 cw, .int .i64 ch, .int .i64 cg, .int .i64 cd] : Array Value)[o]? := blk_later (by simp) hb1 (by (repeat (first | (with_reducible assumption) | (focus ((with_reducible refine new_at ?_ _ _); (repeat (first | (with_reducible rfl) | (with_reducible refine sz1 ?_))); done)) | (with_reducible refine blk_alloc (by simp) _ ?_) | (with_reducible refine blk_drew ?_)))); have Z1 : ∀ o, v1.cell? ⟨w.heap.size + 1, o, none⟩ = (#[.int .i64 0, .int .i64 0, .int .i64 0] : Array Value)[o]? := blk_later (by simp) hb1 (by (repeat (first | (with_reducible assumption) | (focus ((with_reducible refine new_at ?_ _ _); (repeat (first | (with_reducible rfl) | (with_reducible refine sz1 ?_))); done)) | (with_reducible refine blk_alloc (by simp) _ ?_) | (with_reducible refine blk_drew ?_)))); have Y1 : ∀ o, v1.cell? ⟨w.heap.size + 1 + 1, o, none⟩ = (#[.int .i64 0, .int .i64 0, .int .i64 0] : Array Value)[o]? := blk_later (by simp) hb1 (by (repeat (first | (with_reducible assumption) | (focus ((with_reducible refine new_at ?_ _ _); (repeat (first | (with_reducible rfl) | (with_reducible refine sz1 ?_))); done)) | (with_reducible refine blk_alloc (by simp) _ ?_) | (with_reducible refine blk_drew ?_)))); have F1 : ∀ o, v1.frozen? ⟨w.heap.size + 1, o, none⟩ = false := fro_call hb1 (by (repeat (first | (with_reducible assumption) | (focus ((with_reducible refine fro_new ?_ _ _); (repeat (first | (with_reducible rfl) | (with_reducible refine sz1 ?_))); done)) | ((with_reducible refine fro_more ?_ _ ?_); (repeat (first | (with_reducible assumption) | (focus ((with_reducible refine lt_new ?_); (repeat (first | (with_reducible rfl) | (with_reducible refine sz1 ?_))); done)) | (with_reducible refine lt_here ?_))))))) (by (repeat (first | (with_reducible assumption) | (focus ((with_reducible refine lt_new ?_); (repeat (first | (with_reducible rfl) | (with_reducible refine sz1 ?_))); done)) | (with_reducible refine lt_here ?_)))); have G1 : ∀ o, v1.frozen? ⟨w.heap.size + 1 + 1, o, none⟩ = false := fro_call hb1 (by (repeat (first | (with_reducible assumption) | (focus ((with_reducible refine fro_new ?_ _ _); (repeat (first | (with_reducible rfl) | (with_reducible refine sz1 ?_))); done)) | ((with_reducible refine fro_more ?_ _ ?_); (repeat (first | (with_reducible assumption) | (focus ((with_reducible refine lt_new ?_); (repeat (first | (with_reducible rfl) | (with_reducible refine sz1 ?_))); done)) | (with_reducible refine lt_here ?_))))))) (by (repeat (first | (with_reducible assumption) | (focus ((with_reducible refine lt_new ?_); (repeat (first | (with_reducible rfl) | (with_reducible refine sz1 ?_))); done)) | (with_reducible refine lt_here ?_)))); have s1c : w.heap.size < v1.heap.size := blk_lt (by simp) C1; have s1z : w.heap.size + 1 < v1.heap.size := blk_lt (by simp) Z1; have s1y : w.heap.size + 1 + 1 < v1.heap.size := blk_lt (by simp) Y1))
    | (go_at_call 26; ((with_reducible refine (among1 1 4 cg true H2.out _ _ (new_at rfl _ _)).mono ?_); rintro e v2 ⟨rfl, hb2⟩; have C2 := blk_later (by simp) hb2 (blk_alloc (by simp) _ C1); have Z2 := blk_later (by simp) hb2 (blk_alloc (by simp) _ Z1); have Y2 := blk_later (by simp) hb2 (blk_alloc (by simp) _ Y1); have F2 := fro_call hb2 (fro_more s1z _ F1) (lt_here s1z); have G2 := fro_call hb2 (fro_more s1y _ G1) (lt_here s1y); have s2c : w.heap.size < v2.heap.size := blk_lt (by simp) C2; have s2z : w.heap.size + 1 < v2.heap.size := blk_lt (by simp) Z2; have s2y : w.heap.size + 1 + 1 < v2.heap.size := blk_lt (by simp) Y2; clear C1 Z1 Y1 F1 G1))
    | (go_at_call 27; ((with_reducible refine ((within_v H3.out) _).mono ?_); rintro e v3 ⟨rfl, hb3⟩; have C3 := blk_later (by simp) hb3 C2; have Z3 := blk_later (by simp) hb3 Z2; have Y3 := blk_later (by simp) hb3 Y2; have F3 := fro_call hb3 F2 s2z; have G3 := fro_call hb3 G2 s2y; have s3c : w.heap.size < v3.heap.size := blk_lt (by simp) C3; have s3z : w.heap.size + 1 < v3.heap.size := blk_lt (by simp) Z3; have s3y : w.heap.size + 1 + 1 < v3.heap.size := blk_lt (by simp) Y3; clear C2 Z2 Y2 F2 G2))
    | (go_at_call 27; ((with_reducible refine ((within_v H4.out) _).mono ?_); rintro e v4 ⟨rfl, hb4⟩; have C4 := blk_later (by simp) hb4 C3; have Z4 := blk_later (by simp) hb4 Z3; have Y4 := blk_later (by simp) hb4 Y3; have F4 := fro_call hb4 F3 s3z; have G4 := fro_call hb4 G3 s3y; have s4c : w.heap.size < v4.heap.size := blk_lt (by simp) C4; have s4z : w.heap.size + 1 < v4.heap.size := blk_lt (by simp) Z4; have s4y : w.heap.size + 1 + 1 < v4.heap.size := blk_lt (by simp) Y4; clear C3 Z3 Y3 F3 G3)))
  have ny : w.heap.size + 1 + 1 ≠ w.heap.size + 1 := by omega
  have nz : w.heap.size + 1 ≠ w.heap.size + 1 + 1 := by omega
  have KZ := st3_far (i := 0) (j := 1) (k := 2) (u := .int .i64 0) (v := .int .i64 0) (x := .int .i64 0) ny (st3_blk (cs' := (#[.int .i64 0, .int .i64 0, .int .i64 0] : Array Value)) (i := 0) (j := 1) (k := 2) (u := .int .i64 0) (v := .int .i64 0) (x := .int .i64 0) Z4 (by simp) (by simp) (by simp) rfl)
  have KY := st3_blk (cs' := (#[.int .i64 0, .int .i64 0, .int .i64 0] : Array Value)) (i := 0) (j := 1) (k := 2) (u := .int .i64 0) (v := .int .i64 0) (x := .int .i64 0) (st3_far (i := 0) (j := 1) (k := 2) (u := .int .i64 0) (v := .int .i64 0) (x := .int .i64 0) nz Y4) (by simp) (by simp) (by simp) rfl
  have kz0 := KZ 0
  have ky0 := KY 0
  have kz1 := KZ 1
  have ky1 := KY 1
  have kz2 := KZ 2
  have ky2 := KY 2
  clear KZ KY
  refine bodyPost_ret (v := .tuple #[V3 0 0 0, V3 0 0 0, .bool false]) (by simp [results, Try.results13, go_sem, kz0, kz1, kz2, ky0, ky1, ky2]) rfl ?_
  exact ⟨rfl, by (repeat' (first | (with_reducible exact Below.refl _ _) | (with_reducible refine bstep (by with_reducible assumption) ?_) | (with_reducible refine Below.alloc ?_ ?_ _) | (with_reducible refine Below.drew ?_) | (with_reducible refine below_drewN ?_ _) | (with_reducible refine Below.setCell ?_ ?_ _) | go_size))⟩
set_option maxHeartbeats 8000000 in
theorem ray_no5 (ax ay az fx fy fz rx ry rz dx dy dz cw ch cg cd x y a b : Int) (h1 : am2 1 64 cw ch = true) (h2 : am1 1 4 cg = true) (h3 : inB ax ay az 1048576 = true) (h4 : inB fx fy fz 1048576 = true) (h5 : inB rx ry rz 1024 = false) (w : World) :
    Calls Try.prog 13 #[Cam ax ay az fx fy fz rx ry rz dx dy dz cw ch cg cd, .int .i64 x, .int .i64 y, .int .i64 a, .int .i64 b] w fun e w' => e = .returned (.tuple #[V3 0 0 0, V3 0 0 0, .bool false]) ∧ Below w.heap.size w w' := by
  have g1 := am2_iff.1 h1
  have nw : IntKind.i64.wrap (cw - 1) = cw - 1 := IntWalk.i64_in _ (by omega)
  have nh : IntKind.i64.wrap (ch - 1) = ch - 1 := IntWalk.i64_in _ (by omega)
  have g2 := am1_iff.1 h2
  have ng : IntKind.i64.wrap (cg - 1) = cg - 1 := IntWalk.i64_in _ (by omega)
  have H1 := Lib.hid h1
  have H2 := Lib.hid h2
  have H3 := Lib.hid h3
  have H4 := Lib.hid h4
  have H5 := Lib.hid h5
  clear h1 h2 h3 h4 h5 g1 g2
  go_enter Try.func13, Try.ntmps13
  go_wp2_with (first
    | (go_at_call 26; ((with_reducible refine (among2 1 64 cw ch true H1.out _ _ (by (repeat (first | (with_reducible assumption) | (focus ((with_reducible refine new_at ?_ _ _); (repeat (first | (with_reducible rfl) | (with_reducible refine sz1 ?_))); done)) | (with_reducible refine blk_alloc (by simp) _ ?_) | (with_reducible refine blk_drew ?_))))).mono ?_); rintro e v1 ⟨rfl, hb1⟩; have C1 : ∀ o, v1.cell? ⟨w.heap.size, o, none⟩ = (#[.int .i64 ax, .int .i64 ay, .int .i64 az, .int .i64 fx, .int .i64 fy, .int .i64 fz, .int .i64 rx, .int .i64 ry, .int .i64 rz, .int .i64 dx, .int .i64 dy, .int .i64 dz, .int .i64 cw, .int .i64 ch, .int .i64 cg, .int .i64 cd] : Array Value)[o]? := blk_later (by simp) hb1 (by (repeat (first | (with_reducible assumption) | (focus ((with_reducible refine new_at ?_ _ _); (repeat (first | (with_reducible rfl) | (with_reducible refine sz1 ?_))); done)) | (with_reducible refine blk_alloc (by simp) _ ?_) | (with_reducible refine blk_drew ?_)))); have Z1 : ∀ o, v1.cell? ⟨w.heap.size + 1, o, none⟩ = (#[.int .i64 0, .int .i64 0, .int .i64 0] : Array Value)[o]? := blk_later (by simp) hb1 (by (repeat (first | (with_reducible assumption) | (focus ((with_reducible refine new_at ?_ _ _); (repeat (first | (with_reducible rfl) | (with_reducible refine sz1 ?_))); done)) | (with_reducible refine blk_alloc (by simp) _ ?_) | (with_reducible refine blk_drew ?_)))); have Y1 : ∀ o, v1.cell? ⟨w.heap.size + 1 + 1, o, none⟩ = (#[.int .i64 0, .int .i64 0, .int .i64 0] : Array Value)[o]? := blk_later (by simp) hb1 (by (repeat (first | (with_reducible assumption) | (focus ((with_reducible refine new_at ?_ _ _); (repeat (first | (with_reducible rfl) | (with_reducible refine sz1 ?_))); done)) | (with_reducible refine blk_alloc (by simp) _ ?_) | (with_reducible refine blk_drew ?_)))); have F1 : ∀ o, v1.frozen? ⟨w.heap.size + 1, o, none⟩ = false := fro_call hb1 (by (repeat (first | (with_reducible assumption) | (focus ((with_reducible refine fro_new ?_ _ _); (repeat (first | (with_reducible rfl) | (with_reducible refine sz1 ?_))); done)) | ((with_reducible refine fro_more ?_ _ ?_); (repeat (first | (with_reducible assumption) | (focus ((with_reducible refine lt_new ?_); (repeat (first | (with_reducible rfl) | (with_reducible refine sz1 ?_))); done)) | (with_reducible refine lt_here ?_))))))) (by (repeat (first | (with_reducible assumption) | (focus ((with_reducible refine lt_new ?_); (repeat (first | (with_reducible rfl) | (with_reducible refine sz1 ?_))); done)) | (with_reducible refine lt_here ?_)))); have G1 : ∀ o, v1.frozen? ⟨w.heap.size + 1 + 1, o, none⟩ = false := fro_call hb1 (by (repeat (first | (with_reducible assumption) | (focus ((with_reducible refine fro_new ?_ _ _); (repeat (first | (with_reducible rfl) | (with_reducible refine sz1 ?_))); done)) | ((with_reducible refine fro_more ?_ _ ?_); (repeat (first | (with_reducible assumption) | (focus ((with_reducible refine lt_new ?_); (repeat (first | (with_reducible rfl) | (with_reducible refine sz1 ?_))); done)) | (with_reducible refine lt_here ?_))))))) (by (repeat (first | (with_reducible assumption) | (focus ((with_reducible refine lt_new ?_); (repeat (first | (with_reducible rfl) | (with_reducible refine sz1 ?_))); done)) | (with_reducible refine lt_here ?_)))); have s1c : w.heap.size < v1.heap.size := blk_lt (by simp) C1; have s1z : w.heap.size + 1 < v1.heap.size := blk_lt (by simp) Z1; have s1y : w.heap.size + 1 + 1 < v1.heap.size := blk_lt (by simp) Y1))
    | (go_at_call 26; ((with_reducible refine (among1 1 4 cg true H2.out _ _ (new_at rfl _ _)).mono ?_); rintro e v2 ⟨rfl, hb2⟩; have C2 := blk_later (by simp) hb2 (blk_alloc (by simp) _ C1); have Z2 := blk_later (by simp) hb2 (blk_alloc (by simp) _ Z1); have Y2 := blk_later (by simp) hb2 (blk_alloc (by simp) _ Y1); have F2 := fro_call hb2 (fro_more s1z _ F1) (lt_here s1z); have G2 := fro_call hb2 (fro_more s1y _ G1) (lt_here s1y); have s2c : w.heap.size < v2.heap.size := blk_lt (by simp) C2; have s2z : w.heap.size + 1 < v2.heap.size := blk_lt (by simp) Z2; have s2y : w.heap.size + 1 + 1 < v2.heap.size := blk_lt (by simp) Y2; clear C1 Z1 Y1 F1 G1))
    | (go_at_call 27; ((with_reducible refine ((within_v H3.out) _).mono ?_); rintro e v3 ⟨rfl, hb3⟩; have C3 := blk_later (by simp) hb3 C2; have Z3 := blk_later (by simp) hb3 Z2; have Y3 := blk_later (by simp) hb3 Y2; have F3 := fro_call hb3 F2 s2z; have G3 := fro_call hb3 G2 s2y; have s3c : w.heap.size < v3.heap.size := blk_lt (by simp) C3; have s3z : w.heap.size + 1 < v3.heap.size := blk_lt (by simp) Z3; have s3y : w.heap.size + 1 + 1 < v3.heap.size := blk_lt (by simp) Y3; clear C2 Z2 Y2 F2 G2))
    | (go_at_call 27; ((with_reducible refine ((within_v H4.out) _).mono ?_); rintro e v4 ⟨rfl, hb4⟩; have C4 := blk_later (by simp) hb4 C3; have Z4 := blk_later (by simp) hb4 Z3; have Y4 := blk_later (by simp) hb4 Y3; have F4 := fro_call hb4 F3 s3z; have G4 := fro_call hb4 G3 s3y; have s4c : w.heap.size < v4.heap.size := blk_lt (by simp) C4; have s4z : w.heap.size + 1 < v4.heap.size := blk_lt (by simp) Z4; have s4y : w.heap.size + 1 + 1 < v4.heap.size := blk_lt (by simp) Y4; clear C3 Z3 Y3 F3 G3))
    | (go_at_call 27; ((with_reducible refine ((within_v H5.out) _).mono ?_); rintro e v5 ⟨rfl, hb5⟩; have C5 := blk_later (by simp) hb5 C4; have Z5 := blk_later (by simp) hb5 Z4; have Y5 := blk_later (by simp) hb5 Y4; have F5 := fro_call hb5 F4 s4z; have G5 := fro_call hb5 G4 s4y; have s5c : w.heap.size < v5.heap.size := blk_lt (by simp) C5; have s5z : w.heap.size + 1 < v5.heap.size := blk_lt (by simp) Z5; have s5y : w.heap.size + 1 + 1 < v5.heap.size := blk_lt (by simp) Y5; clear C4 Z4 Y4 F4 G4)))
  have ny : w.heap.size + 1 + 1 ≠ w.heap.size + 1 := by omega
  have nz : w.heap.size + 1 ≠ w.heap.size + 1 + 1 := by omega
  have KZ := st3_far (i := 0) (j := 1) (k := 2) (u := .int .i64 0) (v := .int .i64 0) (x := .int .i64 0) ny (st3_blk (cs' := (#[.int .i64 0, .int .i64 0, .int .i64 0] : Array Value)) (i := 0) (j := 1) (k := 2) (u := .int .i64 0) (v := .int .i64 0) (x := .int .i64 0) Z5 (by simp) (by simp) (by simp) rfl)
  have KY := st3_blk (cs' := (#[.int .i64 0, .int .i64 0, .int .i64 0] : Array Value)) (i := 0) (j := 1) (k := 2) (u := .int .i64 0) (v := .int .i64 0) (x := .int .i64 0) (st3_far (i := 0) (j := 1) (k := 2) (u := .int .i64 0) (v := .int .i64 0) (x := .int .i64 0) nz Y5) (by simp) (by simp) (by simp) rfl
  have kz0 := KZ 0
  have ky0 := KY 0
  have kz1 := KZ 1
  have ky1 := KY 1
  have kz2 := KZ 2
  have ky2 := KY 2
  clear KZ KY
  refine bodyPost_ret (v := .tuple #[V3 0 0 0, V3 0 0 0, .bool false]) (by simp [results, Try.results13, go_sem, kz0, kz1, kz2, ky0, ky1, ky2]) rfl ?_
  exact ⟨rfl, by (repeat' (first | (with_reducible exact Below.refl _ _) | (with_reducible refine bstep (by with_reducible assumption) ?_) | (with_reducible refine Below.alloc ?_ ?_ _) | (with_reducible refine Below.drew ?_) | (with_reducible refine below_drewN ?_ _) | (with_reducible refine Below.setCell ?_ ?_ _) | go_size))⟩
set_option maxHeartbeats 8000000 in
theorem ray_no6 (ax ay az fx fy fz rx ry rz dx dy dz cw ch cg cd x y a b : Int) (h1 : am2 1 64 cw ch = true) (h2 : am1 1 4 cg = true) (h3 : inB ax ay az 1048576 = true) (h4 : inB fx fy fz 1048576 = true) (h5 : inB rx ry rz 1024 = true) (h6 : inB dx dy dz 1024 = false) (w : World) :
    Calls Try.prog 13 #[Cam ax ay az fx fy fz rx ry rz dx dy dz cw ch cg cd, .int .i64 x, .int .i64 y, .int .i64 a, .int .i64 b] w fun e w' => e = .returned (.tuple #[V3 0 0 0, V3 0 0 0, .bool false]) ∧ Below w.heap.size w w' := by
  have g1 := am2_iff.1 h1
  have nw : IntKind.i64.wrap (cw - 1) = cw - 1 := IntWalk.i64_in _ (by omega)
  have nh : IntKind.i64.wrap (ch - 1) = ch - 1 := IntWalk.i64_in _ (by omega)
  have g2 := am1_iff.1 h2
  have ng : IntKind.i64.wrap (cg - 1) = cg - 1 := IntWalk.i64_in _ (by omega)
  have H1 := Lib.hid h1
  have H2 := Lib.hid h2
  have H3 := Lib.hid h3
  have H4 := Lib.hid h4
  have H5 := Lib.hid h5
  have H6 := Lib.hid h6
  clear h1 h2 h3 h4 h5 h6 g1 g2
  go_enter Try.func13, Try.ntmps13
  go_wp2_with (first
    | (go_at_call 26; ((with_reducible refine (among2 1 64 cw ch true H1.out _ _ (by (repeat (first | (with_reducible assumption) | (focus ((with_reducible refine new_at ?_ _ _); (repeat (first | (with_reducible rfl) | (with_reducible refine sz1 ?_))); done)) | (with_reducible refine blk_alloc (by simp) _ ?_) | (with_reducible refine blk_drew ?_))))).mono ?_); rintro e v1 ⟨rfl, hb1⟩; have C1 : ∀ o, v1.cell? ⟨w.heap.size, o, none⟩ = (#[.int .i64 ax, .int .i64 ay, .int .i64 az, .int .i64 fx, .int .i64 fy, .int .i64 fz, .int .i64 rx, .int .i64 ry, .int .i64 rz, .int .i64 dx, .int .i64 dy, .int .i64 dz, .int .i64 cw, .int .i64 ch, .int .i64 cg, .int .i64 cd] : Array Value)[o]? := blk_later (by simp) hb1 (by (repeat (first | (with_reducible assumption) | (focus ((with_reducible refine new_at ?_ _ _); (repeat (first | (with_reducible rfl) | (with_reducible refine sz1 ?_))); done)) | (with_reducible refine blk_alloc (by simp) _ ?_) | (with_reducible refine blk_drew ?_)))); have Z1 : ∀ o, v1.cell? ⟨w.heap.size + 1, o, none⟩ = (#[.int .i64 0, .int .i64 0, .int .i64 0] : Array Value)[o]? := blk_later (by simp) hb1 (by (repeat (first | (with_reducible assumption) | (focus ((with_reducible refine new_at ?_ _ _); (repeat (first | (with_reducible rfl) | (with_reducible refine sz1 ?_))); done)) | (with_reducible refine blk_alloc (by simp) _ ?_) | (with_reducible refine blk_drew ?_)))); have Y1 : ∀ o, v1.cell? ⟨w.heap.size + 1 + 1, o, none⟩ = (#[.int .i64 0, .int .i64 0, .int .i64 0] : Array Value)[o]? := blk_later (by simp) hb1 (by (repeat (first | (with_reducible assumption) | (focus ((with_reducible refine new_at ?_ _ _); (repeat (first | (with_reducible rfl) | (with_reducible refine sz1 ?_))); done)) | (with_reducible refine blk_alloc (by simp) _ ?_) | (with_reducible refine blk_drew ?_)))); have F1 : ∀ o, v1.frozen? ⟨w.heap.size + 1, o, none⟩ = false := fro_call hb1 (by (repeat (first | (with_reducible assumption) | (focus ((with_reducible refine fro_new ?_ _ _); (repeat (first | (with_reducible rfl) | (with_reducible refine sz1 ?_))); done)) | ((with_reducible refine fro_more ?_ _ ?_); (repeat (first | (with_reducible assumption) | (focus ((with_reducible refine lt_new ?_); (repeat (first | (with_reducible rfl) | (with_reducible refine sz1 ?_))); done)) | (with_reducible refine lt_here ?_))))))) (by (repeat (first | (with_reducible assumption) | (focus ((with_reducible refine lt_new ?_); (repeat (first | (with_reducible rfl) | (with_reducible refine sz1 ?_))); done)) | (with_reducible refine lt_here ?_)))); have G1 : ∀ o, v1.frozen? ⟨w.heap.size + 1 + 1, o, none⟩ = false := fro_call hb1 (by (repeat (first | (with_reducible assumption) | (focus ((with_reducible refine fro_new ?_ _ _); (repeat (first | (with_reducible rfl) | (with_reducible refine sz1 ?_))); done)) | ((with_reducible refine fro_more ?_ _ ?_); (repeat (first | (with_reducible assumption) | (focus ((with_reducible refine lt_new ?_); (repeat (first | (with_reducible rfl) | (with_reducible refine sz1 ?_))); done)) | (with_reducible refine lt_here ?_))))))) (by (repeat (first | (with_reducible assumption) | (focus ((with_reducible refine lt_new ?_); (repeat (first | (with_reducible rfl) | (with_reducible refine sz1 ?_))); done)) | (with_reducible refine lt_here ?_)))); have s1c : w.heap.size < v1.heap.size := blk_lt (by simp) C1; have s1z : w.heap.size + 1 < v1.heap.size := blk_lt (by simp) Z1; have s1y : w.heap.size + 1 + 1 < v1.heap.size := blk_lt (by simp) Y1))
    | (go_at_call 26; ((with_reducible refine (among1 1 4 cg true H2.out _ _ (new_at rfl _ _)).mono ?_); rintro e v2 ⟨rfl, hb2⟩; have C2 := blk_later (by simp) hb2 (blk_alloc (by simp) _ C1); have Z2 := blk_later (by simp) hb2 (blk_alloc (by simp) _ Z1); have Y2 := blk_later (by simp) hb2 (blk_alloc (by simp) _ Y1); have F2 := fro_call hb2 (fro_more s1z _ F1) (lt_here s1z); have G2 := fro_call hb2 (fro_more s1y _ G1) (lt_here s1y); have s2c : w.heap.size < v2.heap.size := blk_lt (by simp) C2; have s2z : w.heap.size + 1 < v2.heap.size := blk_lt (by simp) Z2; have s2y : w.heap.size + 1 + 1 < v2.heap.size := blk_lt (by simp) Y2; clear C1 Z1 Y1 F1 G1))
    | (go_at_call 27; ((with_reducible refine ((within_v H3.out) _).mono ?_); rintro e v3 ⟨rfl, hb3⟩; have C3 := blk_later (by simp) hb3 C2; have Z3 := blk_later (by simp) hb3 Z2; have Y3 := blk_later (by simp) hb3 Y2; have F3 := fro_call hb3 F2 s2z; have G3 := fro_call hb3 G2 s2y; have s3c : w.heap.size < v3.heap.size := blk_lt (by simp) C3; have s3z : w.heap.size + 1 < v3.heap.size := blk_lt (by simp) Z3; have s3y : w.heap.size + 1 + 1 < v3.heap.size := blk_lt (by simp) Y3; clear C2 Z2 Y2 F2 G2))
    | (go_at_call 27; ((with_reducible refine ((within_v H4.out) _).mono ?_); rintro e v4 ⟨rfl, hb4⟩; have C4 := blk_later (by simp) hb4 C3; have Z4 := blk_later (by simp) hb4 Z3; have Y4 := blk_later (by simp) hb4 Y3; have F4 := fro_call hb4 F3 s3z; have G4 := fro_call hb4 G3 s3y; have s4c : w.heap.size < v4.heap.size := blk_lt (by simp) C4; have s4z : w.heap.size + 1 < v4.heap.size := blk_lt (by simp) Z4; have s4y : w.heap.size + 1 + 1 < v4.heap.size := blk_lt (by simp) Y4; clear C3 Z3 Y3 F3 G3))
    | (go_at_call 27; ((with_reducible refine ((within_v H5.out) _).mono ?_); rintro e v5 ⟨rfl, hb5⟩; have C5 := blk_later (by simp) hb5 C4; have Z5 := blk_later (by simp) hb5 Z4; have Y5 := blk_later (by simp) hb5 Y4; have F5 := fro_call hb5 F4 s4z; have G5 := fro_call hb5 G4 s4y; have s5c : w.heap.size < v5.heap.size := blk_lt (by simp) C5; have s5z : w.heap.size + 1 < v5.heap.size := blk_lt (by simp) Z5; have s5y : w.heap.size + 1 + 1 < v5.heap.size := blk_lt (by simp) Y5; clear C4 Z4 Y4 F4 G4))
    | (go_at_call 27; ((with_reducible refine ((within_v H6.out) _).mono ?_); rintro e v6 ⟨rfl, hb6⟩; have C6 := blk_later (by simp) hb6 C5; have Z6 := blk_later (by simp) hb6 Z5; have Y6 := blk_later (by simp) hb6 Y5; have F6 := fro_call hb6 F5 s5z; have G6 := fro_call hb6 G5 s5y; have s6c : w.heap.size < v6.heap.size := blk_lt (by simp) C6; have s6z : w.heap.size + 1 < v6.heap.size := blk_lt (by simp) Z6; have s6y : w.heap.size + 1 + 1 < v6.heap.size := blk_lt (by simp) Y6; clear C5 Z5 Y5 F5 G5)))
  have ny : w.heap.size + 1 + 1 ≠ w.heap.size + 1 := by omega
  have nz : w.heap.size + 1 ≠ w.heap.size + 1 + 1 := by omega
  have KZ := st3_far (i := 0) (j := 1) (k := 2) (u := .int .i64 0) (v := .int .i64 0) (x := .int .i64 0) ny (st3_blk (cs' := (#[.int .i64 0, .int .i64 0, .int .i64 0] : Array Value)) (i := 0) (j := 1) (k := 2) (u := .int .i64 0) (v := .int .i64 0) (x := .int .i64 0) Z6 (by simp) (by simp) (by simp) rfl)
  have KY := st3_blk (cs' := (#[.int .i64 0, .int .i64 0, .int .i64 0] : Array Value)) (i := 0) (j := 1) (k := 2) (u := .int .i64 0) (v := .int .i64 0) (x := .int .i64 0) (st3_far (i := 0) (j := 1) (k := 2) (u := .int .i64 0) (v := .int .i64 0) (x := .int .i64 0) nz Y6) (by simp) (by simp) (by simp) rfl
  have kz0 := KZ 0
  have ky0 := KY 0
  have kz1 := KZ 1
  have ky1 := KY 1
  have kz2 := KZ 2
  have ky2 := KY 2
  clear KZ KY
  refine bodyPost_ret (v := .tuple #[V3 0 0 0, V3 0 0 0, .bool false]) (by simp [results, Try.results13, go_sem, kz0, kz1, kz2, ky0, ky1, ky2]) rfl ?_
  exact ⟨rfl, by (repeat' (first | (with_reducible exact Below.refl _ _) | (with_reducible refine bstep (by with_reducible assumption) ?_) | (with_reducible refine Below.alloc ?_ ?_ _) | (with_reducible refine Below.drew ?_) | (with_reducible refine below_drewN ?_ _) | (with_reducible refine Below.setCell ?_ ?_ _) | go_size))⟩
set_option maxHeartbeats 8000000 in
theorem ray_no7 (ax ay az fx fy fz rx ry rz dx dy dz cw ch cg cd x y a b : Int) (h1 : am2 1 64 cw ch = true) (h2 : am1 1 4 cg = true) (h3 : inB ax ay az 1048576 = true) (h4 : inB fx fy fz 1048576 = true) (h5 : inB rx ry rz 1024 = true) (h6 : inB dx dy dz 1024 = true) (h7 : am1 0 (cw - 1) x = false) (w : World) :
    Calls Try.prog 13 #[Cam ax ay az fx fy fz rx ry rz dx dy dz cw ch cg cd, .int .i64 x, .int .i64 y, .int .i64 a, .int .i64 b] w fun e w' => e = .returned (.tuple #[V3 0 0 0, V3 0 0 0, .bool false]) ∧ Below w.heap.size w w' := by
  have g1 := am2_iff.1 h1
  have nw : IntKind.i64.wrap (cw - 1) = cw - 1 := IntWalk.i64_in _ (by omega)
  have nh : IntKind.i64.wrap (ch - 1) = ch - 1 := IntWalk.i64_in _ (by omega)
  have g2 := am1_iff.1 h2
  have ng : IntKind.i64.wrap (cg - 1) = cg - 1 := IntWalk.i64_in _ (by omega)
  have H1 := Lib.hid h1
  have H2 := Lib.hid h2
  have H3 := Lib.hid h3
  have H4 := Lib.hid h4
  have H5 := Lib.hid h5
  have H6 := Lib.hid h6
  have H7 := Lib.hid h7
  clear h1 h2 h3 h4 h5 h6 h7 g1 g2
  go_enter Try.func13, Try.ntmps13
  go_wp2_with (first
    | (go_at_call 26; ((with_reducible refine (among2 1 64 cw ch true H1.out _ _ (by (repeat (first | (with_reducible assumption) | (focus ((with_reducible refine new_at ?_ _ _); (repeat (first | (with_reducible rfl) | (with_reducible refine sz1 ?_))); done)) | (with_reducible refine blk_alloc (by simp) _ ?_) | (with_reducible refine blk_drew ?_))))).mono ?_); rintro e v1 ⟨rfl, hb1⟩; have C1 : ∀ o, v1.cell? ⟨w.heap.size, o, none⟩ = (#[.int .i64 ax, .int .i64 ay, .int .i64 az, .int .i64 fx, .int .i64 fy, .int .i64 fz, .int .i64 rx, .int .i64 ry, .int .i64 rz, .int .i64 dx, .int .i64 dy, .int .i64 dz, .int .i64 cw, .int .i64 ch, .int .i64 cg, .int .i64 cd] : Array Value)[o]? := blk_later (by simp) hb1 (by (repeat (first | (with_reducible assumption) | (focus ((with_reducible refine new_at ?_ _ _); (repeat (first | (with_reducible rfl) | (with_reducible refine sz1 ?_))); done)) | (with_reducible refine blk_alloc (by simp) _ ?_) | (with_reducible refine blk_drew ?_)))); have Z1 : ∀ o, v1.cell? ⟨w.heap.size + 1, o, none⟩ = (#[.int .i64 0, .int .i64 0, .int .i64 0] : Array Value)[o]? := blk_later (by simp) hb1 (by (repeat (first | (with_reducible assumption) | (focus ((with_reducible refine new_at ?_ _ _); (repeat (first | (with_reducible rfl) | (with_reducible refine sz1 ?_))); done)) | (with_reducible refine blk_alloc (by simp) _ ?_) | (with_reducible refine blk_drew ?_)))); have Y1 : ∀ o, v1.cell? ⟨w.heap.size + 1 + 1, o, none⟩ = (#[.int .i64 0, .int .i64 0, .int .i64 0] : Array Value)[o]? := blk_later (by simp) hb1 (by (repeat (first | (with_reducible assumption) | (focus ((with_reducible refine new_at ?_ _ _); (repeat (first | (with_reducible rfl) | (with_reducible refine sz1 ?_))); done)) | (with_reducible refine blk_alloc (by simp) _ ?_) | (with_reducible refine blk_drew ?_)))); have F1 : ∀ o, v1.frozen? ⟨w.heap.size + 1, o, none⟩ = false := fro_call hb1 (by (repeat (first | (with_reducible assumption) | (focus ((with_reducible refine fro_new ?_ _ _); (repeat (first | (with_reducible rfl) | (with_reducible refine sz1 ?_))); done)) | ((with_reducible refine fro_more ?_ _ ?_); (repeat (first | (with_reducible assumption) | (focus ((with_reducible refine lt_new ?_); (repeat (first | (with_reducible rfl) | (with_reducible refine sz1 ?_))); done)) | (with_reducible refine lt_here ?_))))))) (by (repeat (first | (with_reducible assumption) | (focus ((with_reducible refine lt_new ?_); (repeat (first | (with_reducible rfl) | (with_reducible refine sz1 ?_))); done)) | (with_reducible refine lt_here ?_)))); have G1 : ∀ o, v1.frozen? ⟨w.heap.size + 1 + 1, o, none⟩ = false := fro_call hb1 (by (repeat (first | (with_reducible assumption) | (focus ((with_reducible refine fro_new ?_ _ _); (repeat (first | (with_reducible rfl) | (with_reducible refine sz1 ?_))); done)) | ((with_reducible refine fro_more ?_ _ ?_); (repeat (first | (with_reducible assumption) | (focus ((with_reducible refine lt_new ?_); (repeat (first | (with_reducible rfl) | (with_reducible refine sz1 ?_))); done)) | (with_reducible refine lt_here ?_))))))) (by (repeat (first | (with_reducible assumption) | (focus ((with_reducible refine lt_new ?_); (repeat (first | (with_reducible rfl) | (with_reducible refine sz1 ?_))); done)) | (with_reducible refine lt_here ?_)))); have s1c : w.heap.size < v1.heap.size := blk_lt (by simp) C1; have s1z : w.heap.size + 1 < v1.heap.size := blk_lt (by simp) Z1; have s1y : w.heap.size + 1 + 1 < v1.heap.size := blk_lt (by simp) Y1))
    | (go_at_call 26; ((with_reducible refine (among1 1 4 cg true H2.out _ _ (new_at rfl _ _)).mono ?_); rintro e v2 ⟨rfl, hb2⟩; have C2 := blk_later (by simp) hb2 (blk_alloc (by simp) _ C1); have Z2 := blk_later (by simp) hb2 (blk_alloc (by simp) _ Z1); have Y2 := blk_later (by simp) hb2 (blk_alloc (by simp) _ Y1); have F2 := fro_call hb2 (fro_more s1z _ F1) (lt_here s1z); have G2 := fro_call hb2 (fro_more s1y _ G1) (lt_here s1y); have s2c : w.heap.size < v2.heap.size := blk_lt (by simp) C2; have s2z : w.heap.size + 1 < v2.heap.size := blk_lt (by simp) Z2; have s2y : w.heap.size + 1 + 1 < v2.heap.size := blk_lt (by simp) Y2; clear C1 Z1 Y1 F1 G1))
    | (go_at_call 27; ((with_reducible refine ((within_v H3.out) _).mono ?_); rintro e v3 ⟨rfl, hb3⟩; have C3 := blk_later (by simp) hb3 C2; have Z3 := blk_later (by simp) hb3 Z2; have Y3 := blk_later (by simp) hb3 Y2; have F3 := fro_call hb3 F2 s2z; have G3 := fro_call hb3 G2 s2y; have s3c : w.heap.size < v3.heap.size := blk_lt (by simp) C3; have s3z : w.heap.size + 1 < v3.heap.size := blk_lt (by simp) Z3; have s3y : w.heap.size + 1 + 1 < v3.heap.size := blk_lt (by simp) Y3; clear C2 Z2 Y2 F2 G2))
    | (go_at_call 27; ((with_reducible refine ((within_v H4.out) _).mono ?_); rintro e v4 ⟨rfl, hb4⟩; have C4 := blk_later (by simp) hb4 C3; have Z4 := blk_later (by simp) hb4 Z3; have Y4 := blk_later (by simp) hb4 Y3; have F4 := fro_call hb4 F3 s3z; have G4 := fro_call hb4 G3 s3y; have s4c : w.heap.size < v4.heap.size := blk_lt (by simp) C4; have s4z : w.heap.size + 1 < v4.heap.size := blk_lt (by simp) Z4; have s4y : w.heap.size + 1 + 1 < v4.heap.size := blk_lt (by simp) Y4; clear C3 Z3 Y3 F3 G3))
    | (go_at_call 27; ((with_reducible refine ((within_v H5.out) _).mono ?_); rintro e v5 ⟨rfl, hb5⟩; have C5 := blk_later (by simp) hb5 C4; have Z5 := blk_later (by simp) hb5 Z4; have Y5 := blk_later (by simp) hb5 Y4; have F5 := fro_call hb5 F4 s4z; have G5 := fro_call hb5 G4 s4y; have s5c : w.heap.size < v5.heap.size := blk_lt (by simp) C5; have s5z : w.heap.size + 1 < v5.heap.size := blk_lt (by simp) Z5; have s5y : w.heap.size + 1 + 1 < v5.heap.size := blk_lt (by simp) Y5; clear C4 Z4 Y4 F4 G4))
    | (go_at_call 27; ((with_reducible refine ((within_v H6.out) _).mono ?_); rintro e v6 ⟨rfl, hb6⟩; have C6 := blk_later (by simp) hb6 C5; have Z6 := blk_later (by simp) hb6 Z5; have Y6 := blk_later (by simp) hb6 Y5; have F6 := fro_call hb6 F5 s5z; have G6 := fro_call hb6 G5 s5y; have s6c : w.heap.size < v6.heap.size := blk_lt (by simp) C6; have s6z : w.heap.size + 1 < v6.heap.size := blk_lt (by simp) Z6; have s6y : w.heap.size + 1 + 1 < v6.heap.size := blk_lt (by simp) Y6; clear C5 Z5 Y5 F5 G5))
    | (go_at_call 26; ((with_reducible refine (among1 0 (cw - 1) x false H7.out _ _ (new_at rfl _ _)).mono ?_); rintro e v7 ⟨rfl, hb7⟩; have C7 := blk_later (by simp) hb7 (blk_alloc (by simp) _ C6); have Z7 := blk_later (by simp) hb7 (blk_alloc (by simp) _ Z6); have Y7 := blk_later (by simp) hb7 (blk_alloc (by simp) _ Y6); have F7 := fro_call hb7 (fro_more s6z _ F6) (lt_here s6z); have G7 := fro_call hb7 (fro_more s6y _ G6) (lt_here s6y); have s7c : w.heap.size < v7.heap.size := blk_lt (by simp) C7; have s7z : w.heap.size + 1 < v7.heap.size := blk_lt (by simp) Z7; have s7y : w.heap.size + 1 + 1 < v7.heap.size := blk_lt (by simp) Y7; clear C6 Z6 Y6 F6 G6)))
  have ny : w.heap.size + 1 + 1 ≠ w.heap.size + 1 := by omega
  have nz : w.heap.size + 1 ≠ w.heap.size + 1 + 1 := by omega
  have KZ := st3_far (i := 0) (j := 1) (k := 2) (u := .int .i64 0) (v := .int .i64 0) (x := .int .i64 0) ny (st3_blk (cs' := (#[.int .i64 0, .int .i64 0, .int .i64 0] : Array Value)) (i := 0) (j := 1) (k := 2) (u := .int .i64 0) (v := .int .i64 0) (x := .int .i64 0) Z7 (by simp) (by simp) (by simp) rfl)
  have KY := st3_blk (cs' := (#[.int .i64 0, .int .i64 0, .int .i64 0] : Array Value)) (i := 0) (j := 1) (k := 2) (u := .int .i64 0) (v := .int .i64 0) (x := .int .i64 0) (st3_far (i := 0) (j := 1) (k := 2) (u := .int .i64 0) (v := .int .i64 0) (x := .int .i64 0) nz Y7) (by simp) (by simp) (by simp) rfl
  have kz0 := KZ 0
  have ky0 := KY 0
  have kz1 := KZ 1
  have ky1 := KY 1
  have kz2 := KZ 2
  have ky2 := KY 2
  clear KZ KY
  refine bodyPost_ret (v := .tuple #[V3 0 0 0, V3 0 0 0, .bool false]) (by simp [results, Try.results13, go_sem, kz0, kz1, kz2, ky0, ky1, ky2]) rfl ?_
  exact ⟨rfl, by (repeat' (first | (with_reducible exact Below.refl _ _) | (with_reducible refine bstep (by with_reducible assumption) ?_) | (with_reducible refine Below.alloc ?_ ?_ _) | (with_reducible refine Below.drew ?_) | (with_reducible refine below_drewN ?_ _) | (with_reducible refine Below.setCell ?_ ?_ _) | go_size))⟩
set_option maxHeartbeats 8000000 in
theorem ray_no8 (ax ay az fx fy fz rx ry rz dx dy dz cw ch cg cd x y a b : Int) (h1 : am2 1 64 cw ch = true) (h2 : am1 1 4 cg = true) (h3 : inB ax ay az 1048576 = true) (h4 : inB fx fy fz 1048576 = true) (h5 : inB rx ry rz 1024 = true) (h6 : inB dx dy dz 1024 = true) (h7 : am1 0 (cw - 1) x = true) (h8 : am1 0 (ch - 1) y = false) (w : World) :
    Calls Try.prog 13 #[Cam ax ay az fx fy fz rx ry rz dx dy dz cw ch cg cd, .int .i64 x, .int .i64 y, .int .i64 a, .int .i64 b] w fun e w' => e = .returned (.tuple #[V3 0 0 0, V3 0 0 0, .bool false]) ∧ Below w.heap.size w w' := by
  have g1 := am2_iff.1 h1
  have nw : IntKind.i64.wrap (cw - 1) = cw - 1 := IntWalk.i64_in _ (by omega)
  have nh : IntKind.i64.wrap (ch - 1) = ch - 1 := IntWalk.i64_in _ (by omega)
  have g2 := am1_iff.1 h2
  have ng : IntKind.i64.wrap (cg - 1) = cg - 1 := IntWalk.i64_in _ (by omega)
  have H1 := Lib.hid h1
  have H2 := Lib.hid h2
  have H3 := Lib.hid h3
  have H4 := Lib.hid h4
  have H5 := Lib.hid h5
  have H6 := Lib.hid h6
  have H7 := Lib.hid h7
  have H8 := Lib.hid h8
  clear h1 h2 h3 h4 h5 h6 h7 h8 g1 g2
  go_enter Try.func13, Try.ntmps13
  go_wp2_with (first
    | (go_at_call 26; ((with_reducible refine (among2 1 64 cw ch true H1.out _ _ (by (repeat (first | (with_reducible assumption) | (focus ((with_reducible refine new_at ?_ _ _); (repeat (first | (with_reducible rfl) | (with_reducible refine sz1 ?_))); done)) | (with_reducible refine blk_alloc (by simp) _ ?_) | (with_reducible refine blk_drew ?_))))).mono ?_); rintro e v1 ⟨rfl, hb1⟩; have C1 : ∀ o, v1.cell? ⟨w.heap.size, o, none⟩ = (#[.int .i64 ax, .int .i64 ay, .int .i64 az, .int .i64 fx, .int .i64 fy, .int .i64 fz, .int .i64 rx, .int .i64 ry, .int .i64 rz, .int .i64 dx, .int .i64 dy, .int .i64 dz, .int .i64 cw, .int .i64 ch, .int .i64 cg, .int .i64 cd] : Array Value)[o]? := blk_later (by simp) hb1 (by (repeat (first | (with_reducible assumption) | (focus ((with_reducible refine new_at ?_ _ _); (repeat (first | (with_reducible rfl) | (with_reducible refine sz1 ?_))); done)) | (with_reducible refine blk_alloc (by simp) _ ?_) | (with_reducible refine blk_drew ?_)))); have Z1 : ∀ o, v1.cell? ⟨w.heap.size + 1, o, none⟩ = (#[.int .i64 0, .int .i64 0, .int .i64 0] : Array Value)[o]? := blk_later (by simp) hb1 (by (repeat (first | (with_reducible assumption) | (focus ((with_reducible refine new_at ?_ _ _); (repeat (first | (with_reducible rfl) | (with_reducible refine sz1 ?_))); done)) | (with_reducible refine blk_alloc (by simp) _ ?_) | (with_reducible refine blk_drew ?_)))); have Y1 : ∀ o, v1.cell? ⟨w.heap.size + 1 + 1, o, none⟩ = (#[.int .i64 0, .int .i64 0, .int .i64 0] : Array Value)[o]? := blk_later (by simp) hb1 (by (repeat (first | (with_reducible assumption) | (focus ((with_reducible refine new_at ?_ _ _); (repeat (first | (with_reducible rfl) | (with_reducible refine sz1 ?_))); done)) | (with_reducible refine blk_alloc (by simp) _ ?_) | (with_reducible refine blk_drew ?_)))); have F1 : ∀ o, v1.frozen? ⟨w.heap.size + 1, o, none⟩ = false := fro_call hb1 (by (repeat (first | (with_reducible assumption) | (focus ((with_reducible refine fro_new ?_ _ _); (repeat (first | (with_reducible rfl) | (with_reducible refine sz1 ?_))); done)) | ((with_reducible refine fro_more ?_ _ ?_); (repeat (first | (with_reducible assumption) | (focus ((with_reducible refine lt_new ?_); (repeat (first | (with_reducible rfl) | (with_reducible refine sz1 ?_))); done)) | (with_reducible refine lt_here ?_))))))) (by (repeat (first | (with_reducible assumption) | (focus ((with_reducible refine lt_new ?_); (repeat (first | (with_reducible rfl) | (with_reducible refine sz1 ?_))); done)) | (with_reducible refine lt_here ?_)))); have G1 : ∀ o, v1.frozen? ⟨w.heap.size + 1 + 1, o, none⟩ = false := fro_call hb1 (by (repeat (first | (with_reducible assumption) | (focus ((with_reducible refine fro_new ?_ _ _); (repeat (first | (with_reducible rfl) | (with_reducible refine sz1 ?_))); done)) | ((with_reducible refine fro_more ?_ _ ?_); (repeat (first | (with_reducible assumption) | (focus ((with_reducible refine lt_new ?_); (repeat (first | (with_reducible rfl) | (with_reducible refine sz1 ?_))); done)) | (with_reducible refine lt_here ?_))))))) (by (repeat (first | (with_reducible assumption) | (focus ((with_reducible refine lt_new ?_); (repeat (first | (with_reducible rfl) | (with_reducible refine sz1 ?_))); done)) | (with_reducible refine lt_here ?_)))); have s1c : w.heap.size < v1.heap.size := blk_lt (by simp) C1; have s1z : w.heap.size + 1 < v1.heap.size := blk_lt (by simp) Z1; have s1y : w.heap.size + 1 + 1 < v1.heap.size := blk_lt (by simp) Y1))
    | (go_at_call 26; ((with_reducible refine (among1 1 4 cg true H2.out _ _ (new_at rfl _ _)).mono ?_); rintro e v2 ⟨rfl, hb2⟩; have C2 := blk_later (by simp) hb2 (blk_alloc (by simp) _ C1); have Z2 := blk_later (by simp) hb2 (blk_alloc (by simp) _ Z1); have Y2 := blk_later (by simp) hb2 (blk_alloc (by simp) _ Y1); have F2 := fro_call hb2 (fro_more s1z _ F1) (lt_here s1z); have G2 := fro_call hb2 (fro_more s1y _ G1) (lt_here s1y); have s2c : w.heap.size < v2.heap.size := blk_lt (by simp) C2; have s2z : w.heap.size + 1 < v2.heap.size := blk_lt (by simp) Z2; have s2y : w.heap.size + 1 + 1 < v2.heap.size := blk_lt (by simp) Y2; clear C1 Z1 Y1 F1 G1))
    | (go_at_call 27; ((with_reducible refine ((within_v H3.out) _).mono ?_); rintro e v3 ⟨rfl, hb3⟩; have C3 := blk_later (by simp) hb3 C2; have Z3 := blk_later (by simp) hb3 Z2; have Y3 := blk_later (by simp) hb3 Y2; have F3 := fro_call hb3 F2 s2z; have G3 := fro_call hb3 G2 s2y; have s3c : w.heap.size < v3.heap.size := blk_lt (by simp) C3; have s3z : w.heap.size + 1 < v3.heap.size := blk_lt (by simp) Z3; have s3y : w.heap.size + 1 + 1 < v3.heap.size := blk_lt (by simp) Y3; clear C2 Z2 Y2 F2 G2))
    | (go_at_call 27; ((with_reducible refine ((within_v H4.out) _).mono ?_); rintro e v4 ⟨rfl, hb4⟩; have C4 := blk_later (by simp) hb4 C3; have Z4 := blk_later (by simp) hb4 Z3; have Y4 := blk_later (by simp) hb4 Y3; have F4 := fro_call hb4 F3 s3z; have G4 := fro_call hb4 G3 s3y; have s4c : w.heap.size < v4.heap.size := blk_lt (by simp) C4; have s4z : w.heap.size + 1 < v4.heap.size := blk_lt (by simp) Z4; have s4y : w.heap.size + 1 + 1 < v4.heap.size := blk_lt (by simp) Y4; clear C3 Z3 Y3 F3 G3))
    | (go_at_call 27; ((with_reducible refine ((within_v H5.out) _).mono ?_); rintro e v5 ⟨rfl, hb5⟩; have C5 := blk_later (by simp) hb5 C4; have Z5 := blk_later (by simp) hb5 Z4; have Y5 := blk_later (by simp) hb5 Y4; have F5 := fro_call hb5 F4 s4z; have G5 := fro_call hb5 G4 s4y; have s5c : w.heap.size < v5.heap.size := blk_lt (by simp) C5; have s5z : w.heap.size + 1 < v5.heap.size := blk_lt (by simp) Z5; have s5y : w.heap.size + 1 + 1 < v5.heap.size := blk_lt (by simp) Y5; clear C4 Z4 Y4 F4 G4))
    | (go_at_call 27; ((with_reducible refine ((within_v H6.out) _).mono ?_); rintro e v6 ⟨rfl, hb6⟩; have C6 := blk_later (by simp) hb6 C5; have Z6 := blk_later (by simp) hb6 Z5; have Y6 := blk_later (by simp) hb6 Y5; have F6 := fro_call hb6 F5 s5z; have G6 := fro_call hb6 G5 s5y; have s6c : w.heap.size < v6.heap.size := blk_lt (by simp) C6; have s6z : w.heap.size + 1 < v6.heap.size := blk_lt (by simp) Z6; have s6y : w.heap.size + 1 + 1 < v6.heap.size := blk_lt (by simp) Y6; clear C5 Z5 Y5 F5 G5))
    | (go_at_call 26; ((with_reducible refine (among1 0 (cw - 1) x true H7.out _ _ (new_at rfl _ _)).mono ?_); rintro e v7 ⟨rfl, hb7⟩; have C7 := blk_later (by simp) hb7 (blk_alloc (by simp) _ C6); have Z7 := blk_later (by simp) hb7 (blk_alloc (by simp) _ Z6); have Y7 := blk_later (by simp) hb7 (blk_alloc (by simp) _ Y6); have F7 := fro_call hb7 (fro_more s6z _ F6) (lt_here s6z); have G7 := fro_call hb7 (fro_more s6y _ G6) (lt_here s6y); have s7c : w.heap.size < v7.heap.size := blk_lt (by simp) C7; have s7z : w.heap.size + 1 < v7.heap.size := blk_lt (by simp) Z7; have s7y : w.heap.size + 1 + 1 < v7.heap.size := blk_lt (by simp) Y7; clear C6 Z6 Y6 F6 G6))
    | (go_at_call 26; ((with_reducible refine (among1 0 (ch - 1) y false H8.out _ _ (new_at rfl _ _)).mono ?_); rintro e v8 ⟨rfl, hb8⟩; have C8 := blk_later (by simp) hb8 (blk_alloc (by simp) _ C7); have Z8 := blk_later (by simp) hb8 (blk_alloc (by simp) _ Z7); have Y8 := blk_later (by simp) hb8 (blk_alloc (by simp) _ Y7); have F8 := fro_call hb8 (fro_more s7z _ F7) (lt_here s7z); have G8 := fro_call hb8 (fro_more s7y _ G7) (lt_here s7y); have s8c : w.heap.size < v8.heap.size := blk_lt (by simp) C8; have s8z : w.heap.size + 1 < v8.heap.size := blk_lt (by simp) Z8; have s8y : w.heap.size + 1 + 1 < v8.heap.size := blk_lt (by simp) Y8; clear C7 Z7 Y7 F7 G7)))
  have ny : w.heap.size + 1 + 1 ≠ w.heap.size + 1 := by omega
  have nz : w.heap.size + 1 ≠ w.heap.size + 1 + 1 := by omega
  have KZ := st3_far (i := 0) (j := 1) (k := 2) (u := .int .i64 0) (v := .int .i64 0) (x := .int .i64 0) ny (st3_blk (cs' := (#[.int .i64 0, .int .i64 0, .int .i64 0] : Array Value)) (i := 0) (j := 1) (k := 2) (u := .int .i64 0) (v := .int .i64 0) (x := .int .i64 0) Z8 (by simp) (by simp) (by simp) rfl)
  have KY := st3_blk (cs' := (#[.int .i64 0, .int .i64 0, .int .i64 0] : Array Value)) (i := 0) (j := 1) (k := 2) (u := .int .i64 0) (v := .int .i64 0) (x := .int .i64 0) (st3_far (i := 0) (j := 1) (k := 2) (u := .int .i64 0) (v := .int .i64 0) (x := .int .i64 0) nz Y8) (by simp) (by simp) (by simp) rfl
  have kz0 := KZ 0
  have ky0 := KY 0
  have kz1 := KZ 1
  have ky1 := KY 1
  have kz2 := KZ 2
  have ky2 := KY 2
  clear KZ KY
  refine bodyPost_ret (v := .tuple #[V3 0 0 0, V3 0 0 0, .bool false]) (by simp [results, Try.results13, go_sem, kz0, kz1, kz2, ky0, ky1, ky2]) rfl ?_
  exact ⟨rfl, by (repeat' (first | (with_reducible exact Below.refl _ _) | (with_reducible refine bstep (by with_reducible assumption) ?_) | (with_reducible refine Below.alloc ?_ ?_ _) | (with_reducible refine Below.drew ?_) | (with_reducible refine below_drewN ?_ _) | (with_reducible refine Below.setCell ?_ ?_ _) | go_size))⟩
set_option maxHeartbeats 8000000 in
theorem ray_no9 (ax ay az fx fy fz rx ry rz dx dy dz cw ch cg cd x y a b : Int) (h1 : am2 1 64 cw ch = true) (h2 : am1 1 4 cg = true) (h3 : inB ax ay az 1048576 = true) (h4 : inB fx fy fz 1048576 = true) (h5 : inB rx ry rz 1024 = true) (h6 : inB dx dy dz 1024 = true) (h7 : am1 0 (cw - 1) x = true) (h8 : am1 0 (ch - 1) y = true) (h9 : am2 0 (cg - 1) a b = false) (w : World) :
    Calls Try.prog 13 #[Cam ax ay az fx fy fz rx ry rz dx dy dz cw ch cg cd, .int .i64 x, .int .i64 y, .int .i64 a, .int .i64 b] w fun e w' => e = .returned (.tuple #[V3 0 0 0, V3 0 0 0, .bool false]) ∧ Below w.heap.size w w' := by
  have g1 := am2_iff.1 h1
  have nw : IntKind.i64.wrap (cw - 1) = cw - 1 := IntWalk.i64_in _ (by omega)
  have nh : IntKind.i64.wrap (ch - 1) = ch - 1 := IntWalk.i64_in _ (by omega)
  have g2 := am1_iff.1 h2
  have ng : IntKind.i64.wrap (cg - 1) = cg - 1 := IntWalk.i64_in _ (by omega)
  have H1 := Lib.hid h1
  have H2 := Lib.hid h2
  have H3 := Lib.hid h3
  have H4 := Lib.hid h4
  have H5 := Lib.hid h5
  have H6 := Lib.hid h6
  have H7 := Lib.hid h7
  have H8 := Lib.hid h8
  have H9 := Lib.hid h9
  clear h1 h2 h3 h4 h5 h6 h7 h8 h9 g1 g2
  go_enter Try.func13, Try.ntmps13
  go_wp2_with (first
    | (go_at_call 26; ((with_reducible refine (among2 1 64 cw ch true H1.out _ _ (by (repeat (first | (with_reducible assumption) | (focus ((with_reducible refine new_at ?_ _ _); (repeat (first | (with_reducible rfl) | (with_reducible refine sz1 ?_))); done)) | (with_reducible refine blk_alloc (by simp) _ ?_) | (with_reducible refine blk_drew ?_))))).mono ?_); rintro e v1 ⟨rfl, hb1⟩; have C1 : ∀ o, v1.cell? ⟨w.heap.size, o, none⟩ = (#[.int .i64 ax, .int .i64 ay, .int .i64 az, .int .i64 fx, .int .i64 fy, .int .i64 fz, .int .i64 rx, .int .i64 ry, .int .i64 rz, .int .i64 dx, .int .i64 dy, .int .i64 dz, .int .i64 cw, .int .i64 ch, .int .i64 cg, .int .i64 cd] : Array Value)[o]? := blk_later (by simp) hb1 (by (repeat (first | (with_reducible assumption) | (focus ((with_reducible refine new_at ?_ _ _); (repeat (first | (with_reducible rfl) | (with_reducible refine sz1 ?_))); done)) | (with_reducible refine blk_alloc (by simp) _ ?_) | (with_reducible refine blk_drew ?_)))); have Z1 : ∀ o, v1.cell? ⟨w.heap.size + 1, o, none⟩ = (#[.int .i64 0, .int .i64 0, .int .i64 0] : Array Value)[o]? := blk_later (by simp) hb1 (by (repeat (first | (with_reducible assumption) | (focus ((with_reducible refine new_at ?_ _ _); (repeat (first | (with_reducible rfl) | (with_reducible refine sz1 ?_))); done)) | (with_reducible refine blk_alloc (by simp) _ ?_) | (with_reducible refine blk_drew ?_)))); have Y1 : ∀ o, v1.cell? ⟨w.heap.size + 1 + 1, o, none⟩ = (#[.int .i64 0, .int .i64 0, .int .i64 0] : Array Value)[o]? := blk_later (by simp) hb1 (by (repeat (first | (with_reducible assumption) | (focus ((with_reducible refine new_at ?_ _ _); (repeat (first | (with_reducible rfl) | (with_reducible refine sz1 ?_))); done)) | (with_reducible refine blk_alloc (by simp) _ ?_) | (with_reducible refine blk_drew ?_)))); have F1 : ∀ o, v1.frozen? ⟨w.heap.size + 1, o, none⟩ = false := fro_call hb1 (by (repeat (first | (with_reducible assumption) | (focus ((with_reducible refine fro_new ?_ _ _); (repeat (first | (with_reducible rfl) | (with_reducible refine sz1 ?_))); done)) | ((with_reducible refine fro_more ?_ _ ?_); (repeat (first | (with_reducible assumption) | (focus ((with_reducible refine lt_new ?_); (repeat (first | (with_reducible rfl) | (with_reducible refine sz1 ?_))); done)) | (with_reducible refine lt_here ?_))))))) (by (repeat (first | (with_reducible assumption) | (focus ((with_reducible refine lt_new ?_); (repeat (first | (with_reducible rfl) | (with_reducible refine sz1 ?_))); done)) | (with_reducible refine lt_here ?_)))); have G1 : ∀ o, v1.frozen? ⟨w.heap.size + 1 + 1, o, none⟩ = false := fro_call hb1 (by (repeat (first | (with_reducible assumption) | (focus ((with_reducible refine fro_new ?_ _ _); (repeat (first | (with_reducible rfl) | (with_reducible refine sz1 ?_))); done)) | ((with_reducible refine fro_more ?_ _ ?_); (repeat (first | (with_reducible assumption) | (focus ((with_reducible refine lt_new ?_); (repeat (first | (with_reducible rfl) | (with_reducible refine sz1 ?_))); done)) | (with_reducible refine lt_here ?_))))))) (by (repeat (first | (with_reducible assumption) | (focus ((with_reducible refine lt_new ?_); (repeat (first | (with_reducible rfl) | (with_reducible refine sz1 ?_))); done)) | (with_reducible refine lt_here ?_)))); have s1c : w.heap.size < v1.heap.size := blk_lt (by simp) C1; have s1z : w.heap.size + 1 < v1.heap.size := blk_lt (by simp) Z1; have s1y : w.heap.size + 1 + 1 < v1.heap.size := blk_lt (by simp) Y1))
    | (go_at_call 26; ((with_reducible refine (among1 1 4 cg true H2.out _ _ (new_at rfl _ _)).mono ?_); rintro e v2 ⟨rfl, hb2⟩; have C2 := blk_later (by simp) hb2 (blk_alloc (by simp) _ C1); have Z2 := blk_later (by simp) hb2 (blk_alloc (by simp) _ Z1); have Y2 := blk_later (by simp) hb2 (blk_alloc (by simp) _ Y1); have F2 := fro_call hb2 (fro_more s1z _ F1) (lt_here s1z); have G2 := fro_call hb2 (fro_more s1y _ G1) (lt_here s1y); have s2c : w.heap.size < v2.heap.size := blk_lt (by simp) C2; have s2z : w.heap.size + 1 < v2.heap.size := blk_lt (by simp) Z2; have s2y : w.heap.size + 1 + 1 < v2.heap.size := blk_lt (by simp) Y2; clear C1 Z1 Y1 F1 G1))
    | (go_at_call 27; ((with_reducible refine ((within_v H3.out) _).mono ?_); rintro e v3 ⟨rfl, hb3⟩; have C3 := blk_later (by simp) hb3 C2; have Z3 := blk_later (by simp) hb3 Z2; have Y3 := blk_later (by simp) hb3 Y2; have F3 := fro_call hb3 F2 s2z; have G3 := fro_call hb3 G2 s2y; have s3c : w.heap.size < v3.heap.size := blk_lt (by simp) C3; have s3z : w.heap.size + 1 < v3.heap.size := blk_lt (by simp) Z3; have s3y : w.heap.size + 1 + 1 < v3.heap.size := blk_lt (by simp) Y3; clear C2 Z2 Y2 F2 G2))
    | (go_at_call 27; ((with_reducible refine ((within_v H4.out) _).mono ?_); rintro e v4 ⟨rfl, hb4⟩; have C4 := blk_later (by simp) hb4 C3; have Z4 := blk_later (by simp) hb4 Z3; have Y4 := blk_later (by simp) hb4 Y3; have F4 := fro_call hb4 F3 s3z; have G4 := fro_call hb4 G3 s3y; have s4c : w.heap.size < v4.heap.size := blk_lt (by simp) C4; have s4z : w.heap.size + 1 < v4.heap.size := blk_lt (by simp) Z4; have s4y : w.heap.size + 1 + 1 < v4.heap.size := blk_lt (by simp) Y4; clear C3 Z3 Y3 F3 G3))
    | (go_at_call 27; ((with_reducible refine ((within_v H5.out) _).mono ?_); rintro e v5 ⟨rfl, hb5⟩; have C5 := blk_later (by simp) hb5 C4; have Z5 := blk_later (by simp) hb5 Z4; have Y5 := blk_later (by simp) hb5 Y4; have F5 := fro_call hb5 F4 s4z; have G5 := fro_call hb5 G4 s4y; have s5c : w.heap.size < v5.heap.size := blk_lt (by simp) C5; have s5z : w.heap.size + 1 < v5.heap.size := blk_lt (by simp) Z5; have s5y : w.heap.size + 1 + 1 < v5.heap.size := blk_lt (by simp) Y5; clear C4 Z4 Y4 F4 G4))
    | (go_at_call 27; ((with_reducible refine ((within_v H6.out) _).mono ?_); rintro e v6 ⟨rfl, hb6⟩; have C6 := blk_later (by simp) hb6 C5; have Z6 := blk_later (by simp) hb6 Z5; have Y6 := blk_later (by simp) hb6 Y5; have F6 := fro_call hb6 F5 s5z; have G6 := fro_call hb6 G5 s5y; have s6c : w.heap.size < v6.heap.size := blk_lt (by simp) C6; have s6z : w.heap.size + 1 < v6.heap.size := blk_lt (by simp) Z6; have s6y : w.heap.size + 1 + 1 < v6.heap.size := blk_lt (by simp) Y6; clear C5 Z5 Y5 F5 G5))
    | (go_at_call 26; ((with_reducible refine (among1 0 (cw - 1) x true H7.out _ _ (new_at rfl _ _)).mono ?_); rintro e v7 ⟨rfl, hb7⟩; have C7 := blk_later (by simp) hb7 (blk_alloc (by simp) _ C6); have Z7 := blk_later (by simp) hb7 (blk_alloc (by simp) _ Z6); have Y7 := blk_later (by simp) hb7 (blk_alloc (by simp) _ Y6); have F7 := fro_call hb7 (fro_more s6z _ F6) (lt_here s6z); have G7 := fro_call hb7 (fro_more s6y _ G6) (lt_here s6y); have s7c : w.heap.size < v7.heap.size := blk_lt (by simp) C7; have s7z : w.heap.size + 1 < v7.heap.size := blk_lt (by simp) Z7; have s7y : w.heap.size + 1 + 1 < v7.heap.size := blk_lt (by simp) Y7; clear C6 Z6 Y6 F6 G6))
    | (go_at_call 26; ((with_reducible refine (among1 0 (ch - 1) y true H8.out _ _ (new_at rfl _ _)).mono ?_); rintro e v8 ⟨rfl, hb8⟩; have C8 := blk_later (by simp) hb8 (blk_alloc (by simp) _ C7); have Z8 := blk_later (by simp) hb8 (blk_alloc (by simp) _ Z7); have Y8 := blk_later (by simp) hb8 (blk_alloc (by simp) _ Y7); have F8 := fro_call hb8 (fro_more s7z _ F7) (lt_here s7z); have G8 := fro_call hb8 (fro_more s7y _ G7) (lt_here s7y); have s8c : w.heap.size < v8.heap.size := blk_lt (by simp) C8; have s8z : w.heap.size + 1 < v8.heap.size := blk_lt (by simp) Z8; have s8y : w.heap.size + 1 + 1 < v8.heap.size := blk_lt (by simp) Y8; clear C7 Z7 Y7 F7 G7))
    | (go_at_call 26; ((with_reducible refine (among2 0 (cg - 1) a b false H9.out _ _ (new_at rfl _ _)).mono ?_); rintro e v9 ⟨rfl, hb9⟩; have C9 := blk_later (by simp) hb9 (blk_alloc (by simp) _ C8); have Z9 := blk_later (by simp) hb9 (blk_alloc (by simp) _ Z8); have Y9 := blk_later (by simp) hb9 (blk_alloc (by simp) _ Y8); have F9 := fro_call hb9 (fro_more s8z _ F8) (lt_here s8z); have G9 := fro_call hb9 (fro_more s8y _ G8) (lt_here s8y); have s9c : w.heap.size < v9.heap.size := blk_lt (by simp) C9; have s9z : w.heap.size + 1 < v9.heap.size := blk_lt (by simp) Z9; have s9y : w.heap.size + 1 + 1 < v9.heap.size := blk_lt (by simp) Y9; clear C8 Z8 Y8 F8 G8)))
  have ny : w.heap.size + 1 + 1 ≠ w.heap.size + 1 := by omega
  have nz : w.heap.size + 1 ≠ w.heap.size + 1 + 1 := by omega
  have KZ := st3_far (i := 0) (j := 1) (k := 2) (u := .int .i64 0) (v := .int .i64 0) (x := .int .i64 0) ny (st3_blk (cs' := (#[.int .i64 0, .int .i64 0, .int .i64 0] : Array Value)) (i := 0) (j := 1) (k := 2) (u := .int .i64 0) (v := .int .i64 0) (x := .int .i64 0) Z9 (by simp) (by simp) (by simp) rfl)
  have KY := st3_blk (cs' := (#[.int .i64 0, .int .i64 0, .int .i64 0] : Array Value)) (i := 0) (j := 1) (k := 2) (u := .int .i64 0) (v := .int .i64 0) (x := .int .i64 0) (st3_far (i := 0) (j := 1) (k := 2) (u := .int .i64 0) (v := .int .i64 0) (x := .int .i64 0) nz Y9) (by simp) (by simp) (by simp) rfl
  have kz0 := KZ 0
  have ky0 := KY 0
  have kz1 := KZ 1
  have ky1 := KY 1
  have kz2 := KZ 2
  have ky2 := KY 2
  clear KZ KY
  refine bodyPost_ret (v := .tuple #[V3 0 0 0, V3 0 0 0, .bool false]) (by simp [results, Try.results13, go_sem, kz0, kz1, kz2, ky0, ky1, ky2]) rfl ?_
  exact ⟨rfl, by (repeat' (first | (with_reducible exact Below.refl _ _) | (with_reducible refine bstep (by with_reducible assumption) ?_) | (with_reducible refine Below.alloc ?_ ?_ _) | (with_reducible refine Below.drew ?_) | (with_reducible refine below_drewN ?_ _) | (with_reducible refine Below.setCell ?_ ?_ _) | go_size))⟩
set_option maxHeartbeats 8000000 in
theorem ray_yes (ax ay az fx fy fz rx ry rz dx dy dz cw ch cg cd x y a b : Int) (hok : rayok ax ay az fx fy fz rx ry rz dx dy dz cw ch cg cd x y a b = true) (w : World) :
    Calls Try.prog 13 #[Cam ax ay az fx fy fz rx ry rz dx dy dz cw ch cg cd, .int .i64 x, .int .i64 y, .int .i64 a, .int .i64 b] w fun e w' => e = .returned (.tuple #[V3 ax ay az, V3 (rayd fx rx dx cg x y a b) (rayd fy ry dy cg x y a b) (rayd fz rz dz cg x y a b), .bool true]) ∧ Below w.heap.size w w' := by
  simp only [rayok, Bool.and_eq_true] at hok
  obtain ⟨⟨⟨⟨⟨⟨⟨⟨h1, h2⟩, h3⟩, h4⟩, h5⟩, h6⟩, h7⟩, h8⟩, h9⟩ := hok
  have g1 := am2_iff.1 h1
  have nw : IntKind.i64.wrap (cw - 1) = cw - 1 := IntWalk.i64_in _ (by omega)
  have nh : IntKind.i64.wrap (ch - 1) = ch - 1 := IntWalk.i64_in _ (by omega)
  have g2 := am1_iff.1 h2
  have ng : IntKind.i64.wrap (cg - 1) = cg - 1 := IntWalk.i64_in _ (by omega)
  have g7 := am1_iff.1 h7
  have g8 := am1_iff.1 h8
  have g9 := am2_iff.1 h9
  have i4 := h4
  have i5 := h5
  have i6 := h6
  rw [inB_iff (by omega) (by omega)] at i4 i5 i6
  have mx1 := mul_le (a := x) (b := cg) (A := 63) (B := 4) (by omega) (by omega) (by omega) (by omega)
  have my1 := mul_le (a := y) (b := cg) (A := 63) (B := 4) (by omega) (by omega) (by omega) (by omega)
  obtain ⟨xg, hxg⟩ : ∃ t, x * cg = t := ⟨_, rfl⟩
  obtain ⟨yg, hyg⟩ : ∃ t, y * cg = t := ⟨_, rfl⟩
  unfold rayd
  rw [hxg] at mx1
  rw [hyg] at my1
  rw [hxg, hyg]
  have n1 : IntKind.i64.wrap (x * cg) = xg := by rw [hxg]; exact IntWalk.i64_in _ (by omega)
  have n2 : IntKind.i64.wrap (y * cg) = yg := by rw [hyg]; exact IntWalk.i64_in _ (by omega)
  obtain ⟨k, hk⟩ : ∃ t, xg + a = t := ⟨_, rfl⟩
  obtain ⟨l, hl⟩ : ∃ t, yg + b = t := ⟨_, rfl⟩
  have n3 : IntKind.i64.wrap (xg + a) = k := by rw [hk]; exact IntWalk.i64_in _ (by omega)
  have n4 : IntKind.i64.wrap (yg + b) = l := by rw [hl]; exact IntWalk.i64_in _ (by omega)
  rw [hk, hl]
  have b0 := mul_in (a := rx) (b := k) i5.1 (by omega)
  have c0 := mul_in (a := dx) (b := l) i6.1 (by omega)
  obtain ⟨u0, eu0⟩ : ∃ t, rx * k = t := ⟨_, rfl⟩
  obtain ⟨t0, et0⟩ : ∃ t, dx * l = t := ⟨_, rfl⟩
  rw [eu0] at b0 ⊢
  rw [et0] at c0 ⊢
  obtain ⟨s0, es0⟩ : ∃ t, fx + u0 = t := ⟨_, rfl⟩
  rw [es0]
  obtain ⟨q0, eq0⟩ : ∃ t, s0 + t0 = t := ⟨_, rfl⟩
  rw [eq0]
  have b1 := mul_in (a := ry) (b := k) i5.2.1 (by omega)
  have c1 := mul_in (a := dy) (b := l) i6.2.1 (by omega)
  obtain ⟨u1, eu1⟩ : ∃ t, ry * k = t := ⟨_, rfl⟩
  obtain ⟨t1, et1⟩ : ∃ t, dy * l = t := ⟨_, rfl⟩
  rw [eu1] at b1 ⊢
  rw [et1] at c1 ⊢
  obtain ⟨s1, es1⟩ : ∃ t, fy + u1 = t := ⟨_, rfl⟩
  rw [es1]
  obtain ⟨q1, eq1⟩ : ∃ t, s1 + t1 = t := ⟨_, rfl⟩
  rw [eq1]
  have b2 := mul_in (a := rz) (b := k) i5.2.2 (by omega)
  have c2 := mul_in (a := dz) (b := l) i6.2.2 (by omega)
  obtain ⟨u2, eu2⟩ : ∃ t, rz * k = t := ⟨_, rfl⟩
  obtain ⟨t2, et2⟩ : ∃ t, dz * l = t := ⟨_, rfl⟩
  rw [eu2] at b2 ⊢
  rw [et2] at c2 ⊢
  obtain ⟨s2, es2⟩ : ∃ t, fz + u2 = t := ⟨_, rfl⟩
  rw [es2]
  obtain ⟨q2, eq2⟩ : ∃ t, s2 + t2 = t := ⟨_, rfl⟩
  rw [eq2]
  have SA := Lib.hid (scale_sm rx ry rz k u0 u1 u2 eu0 eu1 eu2 (by omega) (by omega) (by omega))
  have SB := Lib.hid (scale_sm dx dy dz l t0 t1 t2 et0 et1 et2 (by omega) (by omega) (by omega))
  have AA := Lib.hid (add_sm fx fy fz u0 u1 u2 s0 s1 s2 es0 es1 es2 (by omega) (by omega) (by omega))
  have AB := Lib.hid (add_sm s0 s1 s2 t0 t1 t2 q0 q1 q2 eq0 eq1 eq2 (by omega) (by omega) (by omega))
  have H1 := Lib.hid h1
  have H2 := Lib.hid h2
  have H3 := Lib.hid h3
  have H4 := Lib.hid h4
  have H5 := Lib.hid h5
  have H6 := Lib.hid h6
  have H7 := Lib.hid h7
  have H8 := Lib.hid h8
  have H9 := Lib.hid h9
  clear h1 h2 h3 h4 h5 h6 h7 h8 h9 g1 g2 g7 g8 g9 i4 i5 i6 mx1 my1 hxg hyg hk hl b0 b1 b2 c0 c1 c2 eu0 eu1 eu2 et0 et1 et2 es0 es1 es2 eq0 eq1 eq2
  go_enter Try.func13, Try.ntmps13
  go_wp2_with (first
    | (go_at_call 26; ((with_reducible refine (among2 1 64 cw ch true H1.out _ _ (by (repeat (first | (with_reducible assumption) | (focus ((with_reducible refine new_at ?_ _ _); (repeat (first | (with_reducible rfl) | (with_reducible refine sz1 ?_))); done)) | (with_reducible refine blk_alloc (by simp) _ ?_) | (with_reducible refine blk_drew ?_))))).mono ?_); rintro e v1 ⟨rfl, hb1⟩; have C1 : ∀ o, v1.cell? ⟨w.heap.size, o, none⟩ = (#[.int .i64 ax, .int .i64 ay, .int .i64 az, .int .i64 fx, .int .i64 fy, .int .i64 fz, .int .i64 rx, .int .i64 ry, .int .i64 rz, .int .i64 dx, .int .i64 dy, .int .i64 dz, .int .i64 cw, .int .i64 ch, .int .i64 cg, .int .i64 cd] : Array Value)[o]? := blk_later (by simp) hb1 (by (repeat (first | (with_reducible assumption) | (focus ((with_reducible refine new_at ?_ _ _); (repeat (first | (with_reducible rfl) | (with_reducible refine sz1 ?_))); done)) | (with_reducible refine blk_alloc (by simp) _ ?_) | (with_reducible refine blk_drew ?_)))); have Z1 : ∀ o, v1.cell? ⟨w.heap.size + 1, o, none⟩ = (#[.int .i64 0, .int .i64 0, .int .i64 0] : Array Value)[o]? := blk_later (by simp) hb1 (by (repeat (first | (with_reducible assumption) | (focus ((with_reducible refine new_at ?_ _ _); (repeat (first | (with_reducible rfl) | (with_reducible refine sz1 ?_))); done)) | (with_reducible refine blk_alloc (by simp) _ ?_) | (with_reducible refine blk_drew ?_)))); have Y1 : ∀ o, v1.cell? ⟨w.heap.size + 1 + 1, o, none⟩ = (#[.int .i64 0, .int .i64 0, .int .i64 0] : Array Value)[o]? := blk_later (by simp) hb1 (by (repeat (first | (with_reducible assumption) | (focus ((with_reducible refine new_at ?_ _ _); (repeat (first | (with_reducible rfl) | (with_reducible refine sz1 ?_))); done)) | (with_reducible refine blk_alloc (by simp) _ ?_) | (with_reducible refine blk_drew ?_)))); have F1 : ∀ o, v1.frozen? ⟨w.heap.size + 1, o, none⟩ = false := fro_call hb1 (by (repeat (first | (with_reducible assumption) | (focus ((with_reducible refine fro_new ?_ _ _); (repeat (first | (with_reducible rfl) | (with_reducible refine sz1 ?_))); done)) | ((with_reducible refine fro_more ?_ _ ?_); (repeat (first | (with_reducible assumption) | (focus ((with_reducible refine lt_new ?_); (repeat (first | (with_reducible rfl) | (with_reducible refine sz1 ?_))); done)) | (with_reducible refine lt_here ?_))))))) (by (repeat (first | (with_reducible assumption) | (focus ((with_reducible refine lt_new ?_); (repeat (first | (with_reducible rfl) | (with_reducible refine sz1 ?_))); done)) | (with_reducible refine lt_here ?_)))); have G1 : ∀ o, v1.frozen? ⟨w.heap.size + 1 + 1, o, none⟩ = false := fro_call hb1 (by (repeat (first | (with_reducible assumption) | (focus ((with_reducible refine fro_new ?_ _ _); (repeat (first | (with_reducible rfl) | (with_reducible refine sz1 ?_))); done)) | ((with_reducible refine fro_more ?_ _ ?_); (repeat (first | (with_reducible assumption) | (focus ((with_reducible refine lt_new ?_); (repeat (first | (with_reducible rfl) | (with_reducible refine sz1 ?_))); done)) | (with_reducible refine lt_here ?_))))))) (by (repeat (first | (with_reducible assumption) | (focus ((with_reducible refine lt_new ?_); (repeat (first | (with_reducible rfl) | (with_reducible refine sz1 ?_))); done)) | (with_reducible refine lt_here ?_)))); have s1c : w.heap.size < v1.heap.size := blk_lt (by simp) C1; have s1z : w.heap.size + 1 < v1.heap.size := blk_lt (by simp) Z1; have s1y : w.heap.size + 1 + 1 < v1.heap.size := blk_lt (by simp) Y1))
    | (go_at_call 26; ((with_reducible refine (among1 1 4 cg true H2.out _ _ (new_at rfl _ _)).mono ?_); rintro e v2 ⟨rfl, hb2⟩; have C2 := blk_later (by simp) hb2 (blk_alloc (by simp) _ C1); have Z2 := blk_later (by simp) hb2 (blk_alloc (by simp) _ Z1); have Y2 := blk_later (by simp) hb2 (blk_alloc (by simp) _ Y1); have F2 := fro_call hb2 (fro_more s1z _ F1) (lt_here s1z); have G2 := fro_call hb2 (fro_more s1y _ G1) (lt_here s1y); have s2c : w.heap.size < v2.heap.size := blk_lt (by simp) C2; have s2z : w.heap.size + 1 < v2.heap.size := blk_lt (by simp) Z2; have s2y : w.heap.size + 1 + 1 < v2.heap.size := blk_lt (by simp) Y2; clear C1 Z1 Y1 F1 G1))
    | (go_at_call 27; ((with_reducible refine ((within_v H3.out) _).mono ?_); rintro e v3 ⟨rfl, hb3⟩; have C3 := blk_later (by simp) hb3 C2; have Z3 := blk_later (by simp) hb3 Z2; have Y3 := blk_later (by simp) hb3 Y2; have F3 := fro_call hb3 F2 s2z; have G3 := fro_call hb3 G2 s2y; have s3c : w.heap.size < v3.heap.size := blk_lt (by simp) C3; have s3z : w.heap.size + 1 < v3.heap.size := blk_lt (by simp) Z3; have s3y : w.heap.size + 1 + 1 < v3.heap.size := blk_lt (by simp) Y3; clear C2 Z2 Y2 F2 G2))
    | (go_at_call 27; ((with_reducible refine ((within_v H4.out) _).mono ?_); rintro e v4 ⟨rfl, hb4⟩; have C4 := blk_later (by simp) hb4 C3; have Z4 := blk_later (by simp) hb4 Z3; have Y4 := blk_later (by simp) hb4 Y3; have F4 := fro_call hb4 F3 s3z; have G4 := fro_call hb4 G3 s3y; have s4c : w.heap.size < v4.heap.size := blk_lt (by simp) C4; have s4z : w.heap.size + 1 < v4.heap.size := blk_lt (by simp) Z4; have s4y : w.heap.size + 1 + 1 < v4.heap.size := blk_lt (by simp) Y4; clear C3 Z3 Y3 F3 G3))
    | (go_at_call 27; ((with_reducible refine ((within_v H5.out) _).mono ?_); rintro e v5 ⟨rfl, hb5⟩; have C5 := blk_later (by simp) hb5 C4; have Z5 := blk_later (by simp) hb5 Z4; have Y5 := blk_later (by simp) hb5 Y4; have F5 := fro_call hb5 F4 s4z; have G5 := fro_call hb5 G4 s4y; have s5c : w.heap.size < v5.heap.size := blk_lt (by simp) C5; have s5z : w.heap.size + 1 < v5.heap.size := blk_lt (by simp) Z5; have s5y : w.heap.size + 1 + 1 < v5.heap.size := blk_lt (by simp) Y5; clear C4 Z4 Y4 F4 G4))
    | (go_at_call 27; ((with_reducible refine ((within_v H6.out) _).mono ?_); rintro e v6 ⟨rfl, hb6⟩; have C6 := blk_later (by simp) hb6 C5; have Z6 := blk_later (by simp) hb6 Z5; have Y6 := blk_later (by simp) hb6 Y5; have F6 := fro_call hb6 F5 s5z; have G6 := fro_call hb6 G5 s5y; have s6c : w.heap.size < v6.heap.size := blk_lt (by simp) C6; have s6z : w.heap.size + 1 < v6.heap.size := blk_lt (by simp) Z6; have s6y : w.heap.size + 1 + 1 < v6.heap.size := blk_lt (by simp) Y6; clear C5 Z5 Y5 F5 G5))
    | (go_at_call 26; ((with_reducible refine (among1 0 (cw - 1) x true H7.out _ _ (new_at rfl _ _)).mono ?_); rintro e v7 ⟨rfl, hb7⟩; have C7 := blk_later (by simp) hb7 (blk_alloc (by simp) _ C6); have Z7 := blk_later (by simp) hb7 (blk_alloc (by simp) _ Z6); have Y7 := blk_later (by simp) hb7 (blk_alloc (by simp) _ Y6); have F7 := fro_call hb7 (fro_more s6z _ F6) (lt_here s6z); have G7 := fro_call hb7 (fro_more s6y _ G6) (lt_here s6y); have s7c : w.heap.size < v7.heap.size := blk_lt (by simp) C7; have s7z : w.heap.size + 1 < v7.heap.size := blk_lt (by simp) Z7; have s7y : w.heap.size + 1 + 1 < v7.heap.size := blk_lt (by simp) Y7; clear C6 Z6 Y6 F6 G6))
    | (go_at_call 26; ((with_reducible refine (among1 0 (ch - 1) y true H8.out _ _ (new_at rfl _ _)).mono ?_); rintro e v8 ⟨rfl, hb8⟩; have C8 := blk_later (by simp) hb8 (blk_alloc (by simp) _ C7); have Z8 := blk_later (by simp) hb8 (blk_alloc (by simp) _ Z7); have Y8 := blk_later (by simp) hb8 (blk_alloc (by simp) _ Y7); have F8 := fro_call hb8 (fro_more s7z _ F7) (lt_here s7z); have G8 := fro_call hb8 (fro_more s7y _ G7) (lt_here s7y); have s8c : w.heap.size < v8.heap.size := blk_lt (by simp) C8; have s8z : w.heap.size + 1 < v8.heap.size := blk_lt (by simp) Z8; have s8y : w.heap.size + 1 + 1 < v8.heap.size := blk_lt (by simp) Y8; clear C7 Z7 Y7 F7 G7))
    | (go_at_call 26; ((with_reducible refine (among2 0 (cg - 1) a b true H9.out _ _ (new_at rfl _ _)).mono ?_); rintro e v9 ⟨rfl, hb9⟩; have C9 := blk_later (by simp) hb9 (blk_alloc (by simp) _ C8); have Z9 := blk_later (by simp) hb9 (blk_alloc (by simp) _ Z8); have Y9 := blk_later (by simp) hb9 (blk_alloc (by simp) _ Y8); have F9 := fro_call hb9 (fro_more s8z _ F8) (lt_here s8z); have G9 := fro_call hb9 (fro_more s8y _ G8) (lt_here s8y); have s9c : w.heap.size < v9.heap.size := blk_lt (by simp) C9; have s9z : w.heap.size + 1 < v9.heap.size := blk_lt (by simp) Z9; have s9y : w.heap.size + 1 + 1 < v9.heap.size := blk_lt (by simp) Y9; clear C8 Z8 Y8 F8 G8)))
  refine wp_region_held_drew (S := (fun w' => ∀ o, w'.cell? ⟨w.heap.size, o, none⟩ = (#[.int .i64 ax, .int .i64 ay, .int .i64 az, .int .i64 fx, .int .i64 fy, .int .i64 fz, .int .i64 rx, .int .i64 ry, .int .i64 rz, .int .i64 dx, .int .i64 dy, .int .i64 dz, .int .i64 cw, .int .i64 ch, .int .i64 cg, .int .i64 cd] : Array Value)[o]?)) (by kernel_rfl) ?_ (fun hHeld => ?_)
  · (try dsimp only); (exact C9)
  refine wpAnyH_take (i := 0) (oi := { dst := some 80, op := Go.Op.fieldAddr 25 (Go.Operand.tmp 5) 1, type := 0, pos := "view.go:35", after := #[], guard := none }) (v := ?_) rfl (by kernel_rfl) (by kernel_rfl) (by kernel_rfl) (fun _ _ _ h => h) (Or.inl ⟨by rfl, ?_⟩) (by assumption) ?_
  rotate_left
  · intro w hSw; (try dsimp only at hSw); go_simp; (try with_reducible rfl)
  try simp only [Act.put, List.setIfInBounds_toArray, List.set_cons_zero, List.set_cons_succ]
  refine wpAnyH_take (i := 1) (oi := { dst := some 81, op := Go.Op.load 23 (Go.Operand.tmp 80), type := 23, pos := "view.go:35", after := #[{ on := 0, ground := Go.Ground.data }], guard := none }) (v := ?_) rfl (by kernel_rfl) (by kernel_rfl) (by kernel_rfl) (fun _ _ _ h => h) (Or.inl ⟨by rfl, ?_⟩) (by assumption) ?_
  rotate_left
  · intro w hSw; (try dsimp only at hSw); go_simp; (try with_reducible rfl)
  try simp only [Act.put, List.setIfInBounds_toArray, List.set_cons_zero, List.set_cons_succ]
  refine wpAnyH_take (i := 2) (oi := { dst := some 82, op := Go.Op.fieldAddr 25 (Go.Operand.tmp 5) 2, type := 0, pos := "view.go:35", after := #[], guard := none }) (v := ?_) rfl (by kernel_rfl) (by kernel_rfl) (by kernel_rfl) (fun _ _ _ h => h) (Or.inl ⟨by rfl, ?_⟩) (by assumption) ?_
  rotate_left
  · intro w hSw; (try dsimp only at hSw); go_simp; (try with_reducible rfl)
  try simp only [Act.put, List.setIfInBounds_toArray, List.set_cons_zero, List.set_cons_succ]
  refine wpAnyH_take (i := 3) (oi := { dst := some 83, op := Go.Op.load 23 (Go.Operand.tmp 82), type := 23, pos := "view.go:35", after := #[{ on := 2, ground := Go.Ground.data }], guard := none }) (v := ?_) rfl (by kernel_rfl) (by kernel_rfl) (by kernel_rfl) (fun _ _ _ h => h) (Or.inl ⟨by rfl, ?_⟩) (by assumption) ?_
  rotate_left
  · intro w hSw; (try dsimp only at hSw); go_simp; (try with_reducible rfl)
  try simp only [Act.put, List.setIfInBounds_toArray, List.set_cons_zero, List.set_cons_succ]
  refine wpAnyH_take (i := 4) (oi := { dst := some 84, op := Go.Op.move (Go.Operand.tmp 1), type := 3, pos := "view.go:35", after := #[], guard := none }) (v := ?_) rfl (by kernel_rfl) (by kernel_rfl) (by kernel_rfl) (fun _ _ _ h => h) (Or.inl ⟨by rfl, ?_⟩) (by assumption) ?_
  rotate_left
  · intro w hSw; (try dsimp only at hSw); go_simp; (try with_reducible rfl)
  try simp only [Act.put, List.setIfInBounds_toArray, List.set_cons_zero, List.set_cons_succ]
  refine wpAnyH_take (i := 5) (oi := { dst := some 85, op := Go.Op.fieldAddr 25 (Go.Operand.tmp 5) 6, type := 0, pos := "view.go:35", after := #[], guard := none }) (v := ?_) rfl (by kernel_rfl) (by kernel_rfl) (by kernel_rfl) (fun _ _ _ h => h) (Or.inl ⟨by rfl, ?_⟩) (by assumption) ?_
  rotate_left
  · intro w hSw; (try dsimp only at hSw); go_simp; (try with_reducible rfl)
  try simp only [Act.put, List.setIfInBounds_toArray, List.set_cons_zero, List.set_cons_succ]
  refine wpAnyH_take (i := 6) (oi := { dst := some 86, op := Go.Op.load 3 (Go.Operand.tmp 85), type := 3, pos := "view.go:35", after := #[{ on := 5, ground := Go.Ground.data }], guard := none }) (v := ?_) rfl (by kernel_rfl) (by kernel_rfl) (by kernel_rfl) (fun _ _ _ h => h) (Or.inl ⟨by rfl, ?_⟩) (by assumption) ?_
  rotate_left
  · intro w hSw; (try dsimp only at hSw); go_simp; (try with_reducible rfl)
  try simp only [Act.put, List.setIfInBounds_toArray, List.set_cons_zero, List.set_cons_succ]
  refine wpAnyH_take (i := 7) (oi := { dst := some 87, op := Go.Op.binOp Go.BinOp.mul 3 (Go.Operand.tmp 84) (Go.Operand.tmp 86) 3, type := 3, pos := "view.go:35", after := #[{ on := 4, ground := Go.Ground.data }, { on := 6, ground := Go.Ground.data }], guard := none }) (v := ?_) rfl (by kernel_rfl) (by kernel_rfl) (by kernel_rfl) (fun _ _ _ h => h) (Or.inl ⟨by rfl, ?_⟩) (by assumption) ?_
  rotate_left
  · intro w hSw; (try dsimp only at hSw); go_simp; (try with_reducible rfl)
  try simp only [Act.put, List.setIfInBounds_toArray, List.set_cons_zero, List.set_cons_succ]
  refine wpAnyH_take (i := 8) (oi := { dst := some 88, op := Go.Op.move (Go.Operand.tmp 3), type := 3, pos := "view.go:35", after := #[], guard := none }) (v := ?_) rfl (by kernel_rfl) (by kernel_rfl) (by kernel_rfl) (fun _ _ _ h => h) (Or.inl ⟨by rfl, ?_⟩) (by assumption) ?_
  rotate_left
  · intro w hSw; (try dsimp only at hSw); go_simp; (try with_reducible rfl)
  try simp only [Act.put, List.setIfInBounds_toArray, List.set_cons_zero, List.set_cons_succ]
  refine wpAnyH_take (i := 9) (oi := { dst := some 89, op := Go.Op.binOp Go.BinOp.add 3 (Go.Operand.tmp 87) (Go.Operand.tmp 88) 3, type := 3, pos := "view.go:35", after := #[{ on := 7, ground := Go.Ground.data }, { on := 8, ground := Go.Ground.data }], guard := none }) (v := ?_) rfl (by kernel_rfl) (by kernel_rfl) (by kernel_rfl) (fun _ _ _ h => h) (Or.inl ⟨by rfl, ?_⟩) (by assumption) ?_
  rotate_left
  · intro w hSw; (try dsimp only at hSw); go_simp; (try with_reducible rfl)
  try simp only [Act.put, List.setIfInBounds_toArray, List.set_cons_zero, List.set_cons_succ]
  refine wpAnyH_ready (rs := [10, 12]) (by kernel_rfl) (by simp) ?_
  refine AllReadyH.cons (o := { dst := some 90, op := Go.Op.call { callee := Go.Callee.value (Go.Operand.func 29), args := #[Go.Operand.tmp 83, Go.Operand.tmp 89], argTypes := #[23, 3] }, type := 23, pos := "view.go:35", after := #[{ on := 3, ground := Go.Ground.data }, { on := 9, ground := Go.Ground.data }], guard := none }) rfl (fun K hK => ?_) ?_
  · go_simp
    (go_at_call 29; ((with_reducible refine (SA.out _).mono ?_); rintro e v11 ⟨rfl, gb11⟩))
    have Z11 := blk_later (by simp) gb11 (blk_drew Z9)
    have Y11 := blk_later (by simp) gb11 (blk_drew Y9)
    have F11 := fro_call gb11 (show ∀ o, v9.drew.frozen? _ = false from F9) (show _ < v9.drew.heap.size from s9z)
    have G11 := fro_call gb11 (show ∀ o, v9.drew.frozen? _ = false from G9) (show _ < v9.drew.heap.size from s9y)
    have s11z : w.heap.size + 1 < v11.heap.size := blk_lt (by simp) Z11
    have s11y : w.heap.size + 1 + 1 < v11.heap.size := blk_lt (by simp) Y11
    refine hK.out _ _ ?_ (fun hHeld10 => ?_)
    · (try dsimp only); (exact blk_later (by simp) gb11 hHeld)
    clear hK K hHeld
    try simp only [Act.put, List.setIfInBounds_toArray, List.set_cons_zero, List.set_cons_succ]
    refine wpAnyH_ready (rs := [11, 12]) (by kernel_rfl) (by simp) ?_
    refine AllReadyH.cons (o := { dst := some 91, op := Go.Op.call { callee := Go.Callee.value (Go.Operand.func 28), args := #[Go.Operand.tmp 81, Go.Operand.tmp 90], argTypes := #[23, 23] }, type := 23, pos := "view.go:35", after := #[{ on := 1, ground := Go.Ground.data }, { on := 10, ground := Go.Ground.data }, { on := 10, ground := Go.Ground.chain }], guard := none }) rfl (fun K hK => ?_) ?_
    · go_simp
      (go_at_call 28; ((with_reducible refine (AA.out _).mono ?_); rintro e v12 ⟨rfl, gb12⟩))
      have Z12 := blk_later (by simp) gb12 Z11
      have Y12 := blk_later (by simp) gb12 Y11
      have F12 := fro_call gb12 F11 s11z
      have G12 := fro_call gb12 G11 s11y
      have s12z : w.heap.size + 1 < v12.heap.size := blk_lt (by simp) Z12
      have s12y : w.heap.size + 1 + 1 < v12.heap.size := blk_lt (by simp) Y12
      refine hK.out _ _ ?_ (fun hHeld11 => ?_)
      · (try dsimp only); (exact blk_later (by simp) gb12 hHeld10)
      clear hK K hHeld10
      try simp only [Act.put, List.setIfInBounds_toArray, List.set_cons_zero, List.set_cons_succ]
      refine wpAnyH_ready (rs := [12]) (by kernel_rfl) (by simp) ?_
      refine AllReadyH.cons (o := { dst := some 14, op := Go.Op.alloc 23, type := 0, pos := "view.go:35", after := #[], guard := none }) rfl (fun K hK => ?_) AllReadyH.nil
      go_simp
      refine hK.out _ _ ?_ (fun hHeld12 => ?_)
      · (try dsimp only); (exact blk_alloc (by simp) _ hHeld11)
      clear hK K hHeld11
      try simp only [Act.put, List.setIfInBounds_toArray, List.set_cons_zero, List.set_cons_succ]
      refine wpAnyH_ready (rs := [13]) (by kernel_rfl) (by simp) ?_
      refine AllReadyH.cons (o := { dst := none, op := Go.Op.store 23 (Go.Operand.tmp 14) (Go.Operand.tmp 91), type := 0, pos := "view.go:35", after := #[{ on := 12, ground := Go.Ground.data }, { on := 11, ground := Go.Ground.data }, { on := 11, ground := Go.Ground.chain }, { on := 0, ground := Go.Ground.phase }, { on := 1, ground := Go.Ground.phase }, { on := 2, ground := Go.Ground.phase }, { on := 3, ground := Go.Ground.phase }, { on := 4, ground := Go.Ground.phase }, { on := 5, ground := Go.Ground.phase }, { on := 6, ground := Go.Ground.phase }, { on := 7, ground := Go.Ground.phase }, { on := 8, ground := Go.Ground.phase }, { on := 9, ground := Go.Ground.phase }, { on := 10, ground := Go.Ground.phase }, { on := 11, ground := Go.Ground.phase }, { on := 12, ground := Go.Ground.phase }], guard := none }) rfl (fun K hK => ?_) AllReadyH.nil
      go_simp
      refine hK.out _ _ ?_ (fun hHeld13 => ?_)
      · (try dsimp only); (exact swap_blk hHeld12 (by omega))
      clear hK K hHeld12
      try simp only [Act.put, List.setIfInBounds_toArray, List.set_cons_zero, List.set_cons_succ]
      refine wpAnyH_done (by kernel_rfl) ?_ _
      have CC := hHeld13
      clear hHeld13
      have ZZ := blk_alloc (by simp) (.cells (#[.int .i64 s0, .int .i64 s1, .int .i64 s2] : Array Value) 23) Z12
      have YY := blk_alloc (by simp) (.cells (#[.int .i64 s0, .int .i64 s1, .int .i64 s2] : Array Value) 23) Y12
      have FF := fro_more s12z (.cells (#[.int .i64 s0, .int .i64 s1, .int .i64 s2] : Array Value) 23) F12
      have GG := fro_more s12y (.cells (#[.int .i64 s0, .int .i64 s1, .int .i64 s2] : Array Value) 23) G12
      have DD : ∀ o, (v12.alloc (.cells (#[.int .i64 s0, .int .i64 s1, .int .i64 s2] : Array Value) 23)).cell? ⟨v12.heap.size, o, none⟩ = (#[.int .i64 s0, .int .i64 s1, .int .i64 s2] : Array Value)[o]? := new_at rfl _ _
      have nd1 : w.heap.size + 1 ≠ v12.heap.size := by omega
      have nd2 : w.heap.size + 1 + 1 ≠ v12.heap.size := by omega
      have nc1 : w.heap.size + 1 ≠ w.heap.size := by omega
      have nc2 : w.heap.size + 1 + 1 ≠ w.heap.size := by omega
      go_wp2_with fail
      refine wp_region_held_drew (S := (fun w' => (∀ o, w'.cell? ⟨w.heap.size, o, none⟩ = (#[.int .i64 ax, .int .i64 ay, .int .i64 az, .int .i64 fx, .int .i64 fy, .int .i64 fz, .int .i64 rx, .int .i64 ry, .int .i64 rz, .int .i64 dx, .int .i64 dy, .int .i64 dz, .int .i64 cw, .int .i64 ch, .int .i64 cg, .int .i64 cd] : Array Value)[o]?) ∧ (∀ o, w'.cell? ⟨v12.heap.size, o, none⟩ = (#[.int .i64 s0, .int .i64 s1, .int .i64 s2] : Array Value)[o]?))) (by kernel_rfl) ?_ (fun hHeld => ?_)
      · (try dsimp only); (exact ⟨CC, DD⟩)
      refine wpAnyH_take (i := 0) (oi := { dst := some 92, op := Go.Op.fieldAddr 25 (Go.Operand.tmp 5) 0, type := 0, pos := "view.go:36", after := #[], guard := none }) (v := ?_) rfl (by kernel_rfl) (by kernel_rfl) (by kernel_rfl) (fun _ _ _ h => h) (Or.inl ⟨by rfl, ?_⟩) (by assumption) ?_
      rotate_left
      · intro w hSw; (try dsimp only at hSw); go_simp; (try with_reducible rfl)
      try simp only [Act.put, List.setIfInBounds_toArray, List.set_cons_zero, List.set_cons_succ]
      refine wpAnyH_take (i := 1) (oi := { dst := some 93, op := Go.Op.load 23 (Go.Operand.tmp 92), type := 23, pos := "view.go:36", after := #[{ on := 0, ground := Go.Ground.data }], guard := none }) (v := ?_) rfl (by kernel_rfl) (by kernel_rfl) (by kernel_rfl) (fun _ _ _ h => h) (Or.inl ⟨by rfl, ?_⟩) (by assumption) ?_
      rotate_left
      · intro w hSw; (try dsimp only at hSw); go_simp; (try with_reducible rfl)
      try simp only [Act.put, List.setIfInBounds_toArray, List.set_cons_zero, List.set_cons_succ]
      refine wpAnyH_take (i := 2) (oi := { dst := some 94, op := Go.Op.load 23 (Go.Operand.tmp 14), type := 23, pos := "view.go:36", after := #[], guard := none }) (v := ?_) rfl (by kernel_rfl) (by kernel_rfl) (by kernel_rfl) (fun _ _ _ h => h) (Or.inl ⟨by rfl, ?_⟩) (by assumption) ?_
      rotate_left
      · intro w hSw; (try dsimp only at hSw); go_simp; (try with_reducible rfl)
      try simp only [Act.put, List.setIfInBounds_toArray, List.set_cons_zero, List.set_cons_succ]
      refine wpAnyH_take (i := 3) (oi := { dst := some 95, op := Go.Op.fieldAddr 25 (Go.Operand.tmp 5) 3, type := 0, pos := "view.go:36", after := #[], guard := none }) (v := ?_) rfl (by kernel_rfl) (by kernel_rfl) (by kernel_rfl) (fun _ _ _ h => h) (Or.inl ⟨by rfl, ?_⟩) (by assumption) ?_
      rotate_left
      · intro w hSw; (try dsimp only at hSw); go_simp; (try with_reducible rfl)
      try simp only [Act.put, List.setIfInBounds_toArray, List.set_cons_zero, List.set_cons_succ]
      refine wpAnyH_take (i := 4) (oi := { dst := some 96, op := Go.Op.load 23 (Go.Operand.tmp 95), type := 23, pos := "view.go:36", after := #[{ on := 3, ground := Go.Ground.data }], guard := none }) (v := ?_) rfl (by kernel_rfl) (by kernel_rfl) (by kernel_rfl) (fun _ _ _ h => h) (Or.inl ⟨by rfl, ?_⟩) (by assumption) ?_
      rotate_left
      · intro w hSw; (try dsimp only at hSw); go_simp; (try with_reducible rfl)
      try simp only [Act.put, List.setIfInBounds_toArray, List.set_cons_zero, List.set_cons_succ]
      refine wpAnyH_take (i := 5) (oi := { dst := some 97, op := Go.Op.move (Go.Operand.tmp 2), type := 3, pos := "view.go:36", after := #[], guard := none }) (v := ?_) rfl (by kernel_rfl) (by kernel_rfl) (by kernel_rfl) (fun _ _ _ h => h) (Or.inl ⟨by rfl, ?_⟩) (by assumption) ?_
      rotate_left
      · intro w hSw; (try dsimp only at hSw); go_simp; (try with_reducible rfl)
      try simp only [Act.put, List.setIfInBounds_toArray, List.set_cons_zero, List.set_cons_succ]
      refine wpAnyH_take (i := 6) (oi := { dst := some 98, op := Go.Op.fieldAddr 25 (Go.Operand.tmp 5) 6, type := 0, pos := "view.go:36", after := #[], guard := none }) (v := ?_) rfl (by kernel_rfl) (by kernel_rfl) (by kernel_rfl) (fun _ _ _ h => h) (Or.inl ⟨by rfl, ?_⟩) (by assumption) ?_
      rotate_left
      · intro w hSw; (try dsimp only at hSw); go_simp; (try with_reducible rfl)
      try simp only [Act.put, List.setIfInBounds_toArray, List.set_cons_zero, List.set_cons_succ]
      refine wpAnyH_take (i := 7) (oi := { dst := some 99, op := Go.Op.load 3 (Go.Operand.tmp 98), type := 3, pos := "view.go:36", after := #[{ on := 6, ground := Go.Ground.data }], guard := none }) (v := ?_) rfl (by kernel_rfl) (by kernel_rfl) (by kernel_rfl) (fun _ _ _ h => h) (Or.inl ⟨by rfl, ?_⟩) (by assumption) ?_
      rotate_left
      · intro w hSw; (try dsimp only at hSw); go_simp; (try with_reducible rfl)
      try simp only [Act.put, List.setIfInBounds_toArray, List.set_cons_zero, List.set_cons_succ]
      refine wpAnyH_take (i := 8) (oi := { dst := some 100, op := Go.Op.binOp Go.BinOp.mul 3 (Go.Operand.tmp 97) (Go.Operand.tmp 99) 3, type := 3, pos := "view.go:36", after := #[{ on := 5, ground := Go.Ground.data }, { on := 7, ground := Go.Ground.data }], guard := none }) (v := ?_) rfl (by kernel_rfl) (by kernel_rfl) (by kernel_rfl) (fun _ _ _ h => h) (Or.inl ⟨by rfl, ?_⟩) (by assumption) ?_
      rotate_left
      · intro w hSw; (try dsimp only at hSw); go_simp; (try with_reducible rfl)
      try simp only [Act.put, List.setIfInBounds_toArray, List.set_cons_zero, List.set_cons_succ]
      refine wpAnyH_take (i := 9) (oi := { dst := some 101, op := Go.Op.move (Go.Operand.tmp 4), type := 3, pos := "view.go:36", after := #[], guard := none }) (v := ?_) rfl (by kernel_rfl) (by kernel_rfl) (by kernel_rfl) (fun _ _ _ h => h) (Or.inl ⟨by rfl, ?_⟩) (by assumption) ?_
      rotate_left
      · intro w hSw; (try dsimp only at hSw); go_simp; (try with_reducible rfl)
      try simp only [Act.put, List.setIfInBounds_toArray, List.set_cons_zero, List.set_cons_succ]
      refine wpAnyH_take (i := 10) (oi := { dst := some 102, op := Go.Op.binOp Go.BinOp.add 3 (Go.Operand.tmp 100) (Go.Operand.tmp 101) 3, type := 3, pos := "view.go:36", after := #[{ on := 8, ground := Go.Ground.data }, { on := 9, ground := Go.Ground.data }], guard := none }) (v := ?_) rfl (by kernel_rfl) (by kernel_rfl) (by kernel_rfl) (fun _ _ _ h => h) (Or.inl ⟨by rfl, ?_⟩) (by assumption) ?_
      rotate_left
      · intro w hSw; (try dsimp only at hSw); go_simp; (try with_reducible rfl)
      try simp only [Act.put, List.setIfInBounds_toArray, List.set_cons_zero, List.set_cons_succ]
      refine wpAnyH_ready (rs := [11]) (by kernel_rfl) (by simp) ?_
      refine AllReadyH.cons (o := { dst := some 103, op := Go.Op.call { callee := Go.Callee.value (Go.Operand.func 29), args := #[Go.Operand.tmp 96, Go.Operand.tmp 102], argTypes := #[23, 3] }, type := 23, pos := "view.go:36", after := #[{ on := 4, ground := Go.Ground.data }, { on := 10, ground := Go.Ground.data }], guard := none }) rfl (fun K hK => ?_) AllReadyH.nil
      go_simp
      (go_at_call 29; ((with_reducible refine (SB.out _).mono ?_); rintro e v13 ⟨rfl, gb13⟩))
      have Z13 := blk_later (by simp) gb13 (blk_drew ZZ)
      have Y13 := blk_later (by simp) gb13 (blk_drew YY)
      have F13 := fro_call gb13 (show ∀ o, World.frozen? (World.drew _) _ = false from FF) (show _ < _ from lt_here s12z)
      have G13 := fro_call gb13 (show ∀ o, World.frozen? (World.drew _) _ = false from GG) (show _ < _ from lt_here s12y)
      have s13z : w.heap.size + 1 < v13.heap.size := blk_lt (by simp) Z13
      have s13y : w.heap.size + 1 + 1 < v13.heap.size := blk_lt (by simp) Y13
      refine hK.out _ _ ?_ (fun hHeld11 => ?_)
      · (try dsimp only); (exact ⟨blk_later (by simp) gb13 hHeld.1, blk_later (by simp) gb13 hHeld.2⟩)
      clear hK K hHeld
      try simp only [Act.put, List.setIfInBounds_toArray, List.set_cons_zero, List.set_cons_succ]
      refine wpAnyH_ready (rs := [12]) (by kernel_rfl) (by simp) ?_
      refine AllReadyH.cons (o := { dst := some 104, op := Go.Op.call { callee := Go.Callee.value (Go.Operand.func 28), args := #[Go.Operand.tmp 94, Go.Operand.tmp 103], argTypes := #[23, 23] }, type := 23, pos := "view.go:36", after := #[{ on := 2, ground := Go.Ground.data }, { on := 11, ground := Go.Ground.data }, { on := 11, ground := Go.Ground.chain }], guard := none }) rfl (fun K hK => ?_) AllReadyH.nil
      go_simp
      (go_at_call 28; ((with_reducible refine (AB.out _).mono ?_); rintro e v14 ⟨rfl, gb14⟩))
      have Z14 := blk_later (by simp) gb14 Z13
      have Y14 := blk_later (by simp) gb14 Y13
      have F14 := fro_call gb14 F13 s13z
      have G14 := fro_call gb14 G13 s13y
      have s14z : w.heap.size + 1 < v14.heap.size := blk_lt (by simp) Z14
      have s14y : w.heap.size + 1 + 1 < v14.heap.size := blk_lt (by simp) Y14
      refine hK.out _ _ ?_ (fun hHeld12 => ?_)
      · (try dsimp only); (exact ⟨blk_later (by simp) gb14 hHeld11.1, blk_later (by simp) gb14 hHeld11.2⟩)
      clear hK K hHeld11
      try simp only [Act.put, List.setIfInBounds_toArray, List.set_cons_zero, List.set_cons_succ]
      refine wpAnyH_ready (rs := [13]) (by kernel_rfl) (by simp) ?_
      refine AllReadyH.cons (o := { dst := none, op := Go.Op.store 23 (Go.Operand.tmp 10) (Go.Operand.tmp 93), type := 0, pos := "view.go:36", after := #[{ on := 1, ground := Go.Ground.data }, { on := 12, ground := Go.Ground.chain }, { on := 0, ground := Go.Ground.phase }, { on := 1, ground := Go.Ground.phase }, { on := 2, ground := Go.Ground.textOnly Go.Departure.lateStores }, { on := 3, ground := Go.Ground.textOnly Go.Departure.lateStores }, { on := 4, ground := Go.Ground.textOnly Go.Departure.lateStores }, { on := 5, ground := Go.Ground.textOnly Go.Departure.lateStores }, { on := 6, ground := Go.Ground.textOnly Go.Departure.lateStores }, { on := 7, ground := Go.Ground.textOnly Go.Departure.lateStores }, { on := 8, ground := Go.Ground.textOnly Go.Departure.lateStores }, { on := 9, ground := Go.Ground.textOnly Go.Departure.lateStores }, { on := 10, ground := Go.Ground.textOnly Go.Departure.lateStores }, { on := 11, ground := Go.Ground.textOnly Go.Departure.lateStoresUnsure }, { on := 12, ground := Go.Ground.textOnly Go.Departure.lateStoresUnsure }], guard := none }) rfl (fun K hK => ?_) AllReadyH.nil
      go_simp
      refine hK.out _ _ ?_ (fun hHeld13 => ?_)
      · (try dsimp only); (exact ⟨st3_far nc1 hHeld12.1, st3_far nd1 hHeld12.2⟩)
      clear hK K hHeld12
      try simp only [Act.put, List.setIfInBounds_toArray, List.set_cons_zero, List.set_cons_succ]
      refine wpAnyH_ready (rs := [14]) (by kernel_rfl) (by simp) ?_
      refine AllReadyH.cons (o := { dst := none, op := Go.Op.store 23 (Go.Operand.tmp 11) (Go.Operand.tmp 104), type := 0, pos := "view.go:36", after := #[{ on := 12, ground := Go.Ground.data }, { on := 13, ground := Go.Ground.chain }, { on := 0, ground := Go.Ground.phase }, { on := 1, ground := Go.Ground.phase }, { on := 2, ground := Go.Ground.phase }, { on := 3, ground := Go.Ground.phase }, { on := 4, ground := Go.Ground.phase }, { on := 5, ground := Go.Ground.phase }, { on := 6, ground := Go.Ground.phase }, { on := 7, ground := Go.Ground.phase }, { on := 8, ground := Go.Ground.phase }, { on := 9, ground := Go.Ground.phase }, { on := 10, ground := Go.Ground.phase }, { on := 11, ground := Go.Ground.phase }, { on := 12, ground := Go.Ground.phase }, { on := 13, ground := Go.Ground.phase }], guard := none }) rfl (fun K hK => ?_) AllReadyH.nil
      go_simp
      refine hK.out _ _ ?_ (fun hHeld14 => ?_)
      · (try dsimp only); (exact ⟨st3_far nc2 hHeld13.1, st3_far nd2 hHeld13.2⟩)
      clear hK K hHeld13
      try simp only [Act.put, List.setIfInBounds_toArray, List.set_cons_zero, List.set_cons_succ]
      refine wpAnyH_take (i := 15) (oi := { dst := some 12, op := Go.Op.assign (Go.Operand.const (Go.Value.bool true)), type := 4, pos := "view.go:36", after := #[{ on := 14, ground := Go.Ground.chain }, { on := 0, ground := Go.Ground.phase }, { on := 1, ground := Go.Ground.phase }, { on := 2, ground := Go.Ground.phase }, { on := 3, ground := Go.Ground.phase }, { on := 4, ground := Go.Ground.phase }, { on := 5, ground := Go.Ground.phase }, { on := 6, ground := Go.Ground.phase }, { on := 7, ground := Go.Ground.phase }, { on := 8, ground := Go.Ground.phase }, { on := 9, ground := Go.Ground.phase }, { on := 10, ground := Go.Ground.phase }, { on := 11, ground := Go.Ground.phase }, { on := 12, ground := Go.Ground.phase }, { on := 13, ground := Go.Ground.phase }, { on := 14, ground := Go.Ground.phase }], guard := none }) (v := ?_) rfl (by kernel_rfl) (by kernel_rfl) (by kernel_rfl) (fun _ _ _ h => h) (Or.inl ⟨by rfl, ?_⟩) (by assumption) ?_
      rotate_left
      · intro w hSw; (try dsimp only at hSw); go_simp; (try with_reducible rfl)
      try simp only [Act.put, List.setIfInBounds_toArray, List.set_cons_zero, List.set_cons_succ]
      refine wpAnyH_done (by kernel_rfl) ?_ _
      clear hHeld14
      go_wp2_with fail
      have ny : w.heap.size + 1 + 1 ≠ w.heap.size + 1 := by omega
      have nz : w.heap.size + 1 ≠ w.heap.size + 1 + 1 := by omega
      have KZ := st3_far (i := 0) (j := 1) (k := 2) (u := .int .i64 q0) (v := .int .i64 q1) (x := .int .i64 q2) ny (st3_blk (cs' := (#[.int .i64 ax, .int .i64 ay, .int .i64 az] : Array Value)) (i := 0) (j := 1) (k := 2) (u := .int .i64 ax) (v := .int .i64 ay) (x := .int .i64 az) Z14 (by simp) (by simp) (by simp) rfl)
      have KY := st3_blk (cs' := (#[.int .i64 q0, .int .i64 q1, .int .i64 q2] : Array Value)) (i := 0) (j := 1) (k := 2) (u := .int .i64 q0) (v := .int .i64 q1) (x := .int .i64 q2) (st3_far (i := 0) (j := 1) (k := 2) (u := .int .i64 ax) (v := .int .i64 ay) (x := .int .i64 az) nz Y14) (by simp) (by simp) (by simp) rfl
      have kz0 := KZ 0
      have ky0 := KY 0
      have kz1 := KZ 1
      have ky1 := KY 1
      have kz2 := KZ 2
      have ky2 := KY 2
      clear KZ KY
      refine bodyPost_ret (v := .tuple #[V3 ax ay az, V3 q0 q1 q2, .bool true]) (by simp [results, Try.results13, go_sem, kz0, kz1, kz2, ky0, ky1, ky2]) rfl ?_
      exact ⟨rfl, by (repeat' (first | (with_reducible exact Below.refl _ _) | (with_reducible refine bstep (by with_reducible assumption) ?_) | (with_reducible refine Below.alloc ?_ ?_ _) | (with_reducible refine Below.drew ?_) | (with_reducible refine below_drewN ?_ _) | (with_reducible refine Below.setCell ?_ ?_ _) | go_size))⟩
    refine AllReadyH.cons (o := { dst := some 14, op := Go.Op.alloc 23, type := 0, pos := "view.go:35", after := #[], guard := none }) rfl (fun K hK => ?_) ?_
    · go_simp
      refine hK.out _ _ ?_ (fun hHeld12 => ?_)
      · (try dsimp only); (exact blk_alloc (by simp) _ hHeld10)
      clear hK K hHeld10
      try simp only [Act.put, List.setIfInBounds_toArray, List.set_cons_zero, List.set_cons_succ]
      refine wpAnyH_ready (rs := [11]) (by kernel_rfl) (by simp) ?_
      refine AllReadyH.cons (o := { dst := some 91, op := Go.Op.call { callee := Go.Callee.value (Go.Operand.func 28), args := #[Go.Operand.tmp 81, Go.Operand.tmp 90], argTypes := #[23, 23] }, type := 23, pos := "view.go:35", after := #[{ on := 1, ground := Go.Ground.data }, { on := 10, ground := Go.Ground.data }, { on := 10, ground := Go.Ground.chain }], guard := none }) rfl (fun K hK => ?_) AllReadyH.nil
      go_simp
      (go_at_call 28; ((with_reducible refine (AA.out _).mono ?_); rintro e v12 ⟨rfl, gb12⟩))
      have Z12 := blk_later (by simp) gb12 (blk_alloc (by simp) _ Z11)
      have Y12 := blk_later (by simp) gb12 (blk_alloc (by simp) _ Y11)
      have F12 := fro_call gb12 (fro_more s11z _ F11) (lt_here s11z)
      have G12 := fro_call gb12 (fro_more s11y _ G11) (lt_here s11y)
      have s12z : w.heap.size + 1 < v12.heap.size := blk_lt (by simp) Z12
      have s12y : w.heap.size + 1 + 1 < v12.heap.size := blk_lt (by simp) Y12
      have D12 : ∀ o, v12.cell? ⟨v11.heap.size, o, none⟩ = (#[.int .i64 0, .int .i64 0, .int .i64 0] : Array Value)[o]? := blk_later (by simp) gb12 (new_at rfl _ _)
      have E12 : ∀ o, v12.frozen? ⟨v11.heap.size, o, none⟩ = false := fro_call gb12 (fro_new rfl _ _) (lt_new rfl)
      have s12d : v11.heap.size < v12.heap.size := blk_lt (by simp) D12
      refine hK.out _ _ ?_ (fun hHeld11 => ?_)
      · (try dsimp only); (exact blk_later (by simp) gb12 hHeld12)
      clear hK K hHeld12
      try simp only [Act.put, List.setIfInBounds_toArray, List.set_cons_zero, List.set_cons_succ]
      refine wpAnyH_ready (rs := [13]) (by kernel_rfl) (by simp) ?_
      refine AllReadyH.cons (o := { dst := none, op := Go.Op.store 23 (Go.Operand.tmp 14) (Go.Operand.tmp 91), type := 0, pos := "view.go:35", after := #[{ on := 12, ground := Go.Ground.data }, { on := 11, ground := Go.Ground.data }, { on := 11, ground := Go.Ground.chain }, { on := 0, ground := Go.Ground.phase }, { on := 1, ground := Go.Ground.phase }, { on := 2, ground := Go.Ground.phase }, { on := 3, ground := Go.Ground.phase }, { on := 4, ground := Go.Ground.phase }, { on := 5, ground := Go.Ground.phase }, { on := 6, ground := Go.Ground.phase }, { on := 7, ground := Go.Ground.phase }, { on := 8, ground := Go.Ground.phase }, { on := 9, ground := Go.Ground.phase }, { on := 10, ground := Go.Ground.phase }, { on := 11, ground := Go.Ground.phase }, { on := 12, ground := Go.Ground.phase }], guard := none }) rfl (fun K hK => ?_) AllReadyH.nil
      go_simp
      refine hK.out _ _ ?_ (fun hHeld13 => ?_)
      · (try dsimp only); (exact st3_far (by omega) hHeld11)
      clear hK K hHeld11
      try simp only [Act.put, List.setIfInBounds_toArray, List.set_cons_zero, List.set_cons_succ]
      refine wpAnyH_done (by kernel_rfl) ?_ _
      have CC := hHeld13
      clear hHeld13
      have ez : v11.heap.size ≠ w.heap.size + 1 := by omega
      have ey : v11.heap.size ≠ w.heap.size + 1 + 1 := by omega
      have ZZ := st3_far (i := 0) (j := 1) (k := 2) (u := .int .i64 s0) (v := .int .i64 s1) (x := .int .i64 s2) ez Z12
      have YY := st3_far (i := 0) (j := 1) (k := 2) (u := .int .i64 s0) (v := .int .i64 s1) (x := .int .i64 s2) ey Y12
      have DD := st3_blk (cs' := (#[.int .i64 s0, .int .i64 s1, .int .i64 s2] : Array Value)) (i := 0) (j := 1) (k := 2) (u := .int .i64 s0) (v := .int .i64 s1) (x := .int .i64 s2) D12 (by simp) (by simp) (by simp) rfl
      have FF := F12
      have GG := G12
      have nd1 : w.heap.size + 1 ≠ v11.heap.size := by omega
      have nd2 : w.heap.size + 1 + 1 ≠ v11.heap.size := by omega
      have nc1 : w.heap.size + 1 ≠ w.heap.size := by omega
      have nc2 : w.heap.size + 1 + 1 ≠ w.heap.size := by omega
      go_wp2_with fail
      refine wp_region_held_drew (S := (fun w' => (∀ o, w'.cell? ⟨w.heap.size, o, none⟩ = (#[.int .i64 ax, .int .i64 ay, .int .i64 az, .int .i64 fx, .int .i64 fy, .int .i64 fz, .int .i64 rx, .int .i64 ry, .int .i64 rz, .int .i64 dx, .int .i64 dy, .int .i64 dz, .int .i64 cw, .int .i64 ch, .int .i64 cg, .int .i64 cd] : Array Value)[o]?) ∧ (∀ o, w'.cell? ⟨v11.heap.size, o, none⟩ = (#[.int .i64 s0, .int .i64 s1, .int .i64 s2] : Array Value)[o]?))) (by kernel_rfl) ?_ (fun hHeld => ?_)
      · (try dsimp only); (exact ⟨CC, DD⟩)
      refine wpAnyH_take (i := 0) (oi := { dst := some 92, op := Go.Op.fieldAddr 25 (Go.Operand.tmp 5) 0, type := 0, pos := "view.go:36", after := #[], guard := none }) (v := ?_) rfl (by kernel_rfl) (by kernel_rfl) (by kernel_rfl) (fun _ _ _ h => h) (Or.inl ⟨by rfl, ?_⟩) (by assumption) ?_
      rotate_left
      · intro w hSw; (try dsimp only at hSw); go_simp; (try with_reducible rfl)
      try simp only [Act.put, List.setIfInBounds_toArray, List.set_cons_zero, List.set_cons_succ]
      refine wpAnyH_take (i := 1) (oi := { dst := some 93, op := Go.Op.load 23 (Go.Operand.tmp 92), type := 23, pos := "view.go:36", after := #[{ on := 0, ground := Go.Ground.data }], guard := none }) (v := ?_) rfl (by kernel_rfl) (by kernel_rfl) (by kernel_rfl) (fun _ _ _ h => h) (Or.inl ⟨by rfl, ?_⟩) (by assumption) ?_
      rotate_left
      · intro w hSw; (try dsimp only at hSw); go_simp; (try with_reducible rfl)
      try simp only [Act.put, List.setIfInBounds_toArray, List.set_cons_zero, List.set_cons_succ]
      refine wpAnyH_take (i := 2) (oi := { dst := some 94, op := Go.Op.load 23 (Go.Operand.tmp 14), type := 23, pos := "view.go:36", after := #[], guard := none }) (v := ?_) rfl (by kernel_rfl) (by kernel_rfl) (by kernel_rfl) (fun _ _ _ h => h) (Or.inl ⟨by rfl, ?_⟩) (by assumption) ?_
      rotate_left
      · intro w hSw; (try dsimp only at hSw); go_simp; (try with_reducible rfl)
      try simp only [Act.put, List.setIfInBounds_toArray, List.set_cons_zero, List.set_cons_succ]
      refine wpAnyH_take (i := 3) (oi := { dst := some 95, op := Go.Op.fieldAddr 25 (Go.Operand.tmp 5) 3, type := 0, pos := "view.go:36", after := #[], guard := none }) (v := ?_) rfl (by kernel_rfl) (by kernel_rfl) (by kernel_rfl) (fun _ _ _ h => h) (Or.inl ⟨by rfl, ?_⟩) (by assumption) ?_
      rotate_left
      · intro w hSw; (try dsimp only at hSw); go_simp; (try with_reducible rfl)
      try simp only [Act.put, List.setIfInBounds_toArray, List.set_cons_zero, List.set_cons_succ]
      refine wpAnyH_take (i := 4) (oi := { dst := some 96, op := Go.Op.load 23 (Go.Operand.tmp 95), type := 23, pos := "view.go:36", after := #[{ on := 3, ground := Go.Ground.data }], guard := none }) (v := ?_) rfl (by kernel_rfl) (by kernel_rfl) (by kernel_rfl) (fun _ _ _ h => h) (Or.inl ⟨by rfl, ?_⟩) (by assumption) ?_
      rotate_left
      · intro w hSw; (try dsimp only at hSw); go_simp; (try with_reducible rfl)
      try simp only [Act.put, List.setIfInBounds_toArray, List.set_cons_zero, List.set_cons_succ]
      refine wpAnyH_take (i := 5) (oi := { dst := some 97, op := Go.Op.move (Go.Operand.tmp 2), type := 3, pos := "view.go:36", after := #[], guard := none }) (v := ?_) rfl (by kernel_rfl) (by kernel_rfl) (by kernel_rfl) (fun _ _ _ h => h) (Or.inl ⟨by rfl, ?_⟩) (by assumption) ?_
      rotate_left
      · intro w hSw; (try dsimp only at hSw); go_simp; (try with_reducible rfl)
      try simp only [Act.put, List.setIfInBounds_toArray, List.set_cons_zero, List.set_cons_succ]
      refine wpAnyH_take (i := 6) (oi := { dst := some 98, op := Go.Op.fieldAddr 25 (Go.Operand.tmp 5) 6, type := 0, pos := "view.go:36", after := #[], guard := none }) (v := ?_) rfl (by kernel_rfl) (by kernel_rfl) (by kernel_rfl) (fun _ _ _ h => h) (Or.inl ⟨by rfl, ?_⟩) (by assumption) ?_
      rotate_left
      · intro w hSw; (try dsimp only at hSw); go_simp; (try with_reducible rfl)
      try simp only [Act.put, List.setIfInBounds_toArray, List.set_cons_zero, List.set_cons_succ]
      refine wpAnyH_take (i := 7) (oi := { dst := some 99, op := Go.Op.load 3 (Go.Operand.tmp 98), type := 3, pos := "view.go:36", after := #[{ on := 6, ground := Go.Ground.data }], guard := none }) (v := ?_) rfl (by kernel_rfl) (by kernel_rfl) (by kernel_rfl) (fun _ _ _ h => h) (Or.inl ⟨by rfl, ?_⟩) (by assumption) ?_
      rotate_left
      · intro w hSw; (try dsimp only at hSw); go_simp; (try with_reducible rfl)
      try simp only [Act.put, List.setIfInBounds_toArray, List.set_cons_zero, List.set_cons_succ]
      refine wpAnyH_take (i := 8) (oi := { dst := some 100, op := Go.Op.binOp Go.BinOp.mul 3 (Go.Operand.tmp 97) (Go.Operand.tmp 99) 3, type := 3, pos := "view.go:36", after := #[{ on := 5, ground := Go.Ground.data }, { on := 7, ground := Go.Ground.data }], guard := none }) (v := ?_) rfl (by kernel_rfl) (by kernel_rfl) (by kernel_rfl) (fun _ _ _ h => h) (Or.inl ⟨by rfl, ?_⟩) (by assumption) ?_
      rotate_left
      · intro w hSw; (try dsimp only at hSw); go_simp; (try with_reducible rfl)
      try simp only [Act.put, List.setIfInBounds_toArray, List.set_cons_zero, List.set_cons_succ]
      refine wpAnyH_take (i := 9) (oi := { dst := some 101, op := Go.Op.move (Go.Operand.tmp 4), type := 3, pos := "view.go:36", after := #[], guard := none }) (v := ?_) rfl (by kernel_rfl) (by kernel_rfl) (by kernel_rfl) (fun _ _ _ h => h) (Or.inl ⟨by rfl, ?_⟩) (by assumption) ?_
      rotate_left
      · intro w hSw; (try dsimp only at hSw); go_simp; (try with_reducible rfl)
      try simp only [Act.put, List.setIfInBounds_toArray, List.set_cons_zero, List.set_cons_succ]
      refine wpAnyH_take (i := 10) (oi := { dst := some 102, op := Go.Op.binOp Go.BinOp.add 3 (Go.Operand.tmp 100) (Go.Operand.tmp 101) 3, type := 3, pos := "view.go:36", after := #[{ on := 8, ground := Go.Ground.data }, { on := 9, ground := Go.Ground.data }], guard := none }) (v := ?_) rfl (by kernel_rfl) (by kernel_rfl) (by kernel_rfl) (fun _ _ _ h => h) (Or.inl ⟨by rfl, ?_⟩) (by assumption) ?_
      rotate_left
      · intro w hSw; (try dsimp only at hSw); go_simp; (try with_reducible rfl)
      try simp only [Act.put, List.setIfInBounds_toArray, List.set_cons_zero, List.set_cons_succ]
      refine wpAnyH_ready (rs := [11]) (by kernel_rfl) (by simp) ?_
      refine AllReadyH.cons (o := { dst := some 103, op := Go.Op.call { callee := Go.Callee.value (Go.Operand.func 29), args := #[Go.Operand.tmp 96, Go.Operand.tmp 102], argTypes := #[23, 3] }, type := 23, pos := "view.go:36", after := #[{ on := 4, ground := Go.Ground.data }, { on := 10, ground := Go.Ground.data }], guard := none }) rfl (fun K hK => ?_) AllReadyH.nil
      go_simp
      (go_at_call 29; ((with_reducible refine (SB.out _).mono ?_); rintro e v13 ⟨rfl, gb13⟩))
      have Z13 := blk_later (by simp) gb13 (blk_drew ZZ)
      have Y13 := blk_later (by simp) gb13 (blk_drew YY)
      have F13 : ∀ o, v13.frozen? ⟨w.heap.size + 1, o, none⟩ = false := fro_call gb13 (fun o => by simp [FF]) (by simp; omega)
      have G13 : ∀ o, v13.frozen? ⟨w.heap.size + 1 + 1, o, none⟩ = false := fro_call gb13 (fun o => by simp [GG]) (by simp; omega)
      have s13z : w.heap.size + 1 < v13.heap.size := blk_lt (by simp) Z13
      have s13y : w.heap.size + 1 + 1 < v13.heap.size := blk_lt (by simp) Y13
      refine hK.out _ _ ?_ (fun hHeld11 => ?_)
      · (try dsimp only); (exact ⟨blk_later (by simp) gb13 hHeld.1, blk_later (by simp) gb13 hHeld.2⟩)
      clear hK K hHeld
      try simp only [Act.put, List.setIfInBounds_toArray, List.set_cons_zero, List.set_cons_succ]
      refine wpAnyH_ready (rs := [12]) (by kernel_rfl) (by simp) ?_
      refine AllReadyH.cons (o := { dst := some 104, op := Go.Op.call { callee := Go.Callee.value (Go.Operand.func 28), args := #[Go.Operand.tmp 94, Go.Operand.tmp 103], argTypes := #[23, 23] }, type := 23, pos := "view.go:36", after := #[{ on := 2, ground := Go.Ground.data }, { on := 11, ground := Go.Ground.data }, { on := 11, ground := Go.Ground.chain }], guard := none }) rfl (fun K hK => ?_) AllReadyH.nil
      go_simp
      (go_at_call 28; ((with_reducible refine (AB.out _).mono ?_); rintro e v14 ⟨rfl, gb14⟩))
      have Z14 := blk_later (by simp) gb14 Z13
      have Y14 := blk_later (by simp) gb14 Y13
      have F14 := fro_call gb14 F13 s13z
      have G14 := fro_call gb14 G13 s13y
      have s14z : w.heap.size + 1 < v14.heap.size := blk_lt (by simp) Z14
      have s14y : w.heap.size + 1 + 1 < v14.heap.size := blk_lt (by simp) Y14
      refine hK.out _ _ ?_ (fun hHeld12 => ?_)
      · (try dsimp only); (exact ⟨blk_later (by simp) gb14 hHeld11.1, blk_later (by simp) gb14 hHeld11.2⟩)
      clear hK K hHeld11
      try simp only [Act.put, List.setIfInBounds_toArray, List.set_cons_zero, List.set_cons_succ]
      refine wpAnyH_ready (rs := [13]) (by kernel_rfl) (by simp) ?_
      refine AllReadyH.cons (o := { dst := none, op := Go.Op.store 23 (Go.Operand.tmp 10) (Go.Operand.tmp 93), type := 0, pos := "view.go:36", after := #[{ on := 1, ground := Go.Ground.data }, { on := 12, ground := Go.Ground.chain }, { on := 0, ground := Go.Ground.phase }, { on := 1, ground := Go.Ground.phase }, { on := 2, ground := Go.Ground.textOnly Go.Departure.lateStores }, { on := 3, ground := Go.Ground.textOnly Go.Departure.lateStores }, { on := 4, ground := Go.Ground.textOnly Go.Departure.lateStores }, { on := 5, ground := Go.Ground.textOnly Go.Departure.lateStores }, { on := 6, ground := Go.Ground.textOnly Go.Departure.lateStores }, { on := 7, ground := Go.Ground.textOnly Go.Departure.lateStores }, { on := 8, ground := Go.Ground.textOnly Go.Departure.lateStores }, { on := 9, ground := Go.Ground.textOnly Go.Departure.lateStores }, { on := 10, ground := Go.Ground.textOnly Go.Departure.lateStores }, { on := 11, ground := Go.Ground.textOnly Go.Departure.lateStoresUnsure }, { on := 12, ground := Go.Ground.textOnly Go.Departure.lateStoresUnsure }], guard := none }) rfl (fun K hK => ?_) AllReadyH.nil
      go_simp
      refine hK.out _ _ ?_ (fun hHeld13 => ?_)
      · (try dsimp only); (exact ⟨st3_far nc1 hHeld12.1, st3_far nd1 hHeld12.2⟩)
      clear hK K hHeld12
      try simp only [Act.put, List.setIfInBounds_toArray, List.set_cons_zero, List.set_cons_succ]
      refine wpAnyH_ready (rs := [14]) (by kernel_rfl) (by simp) ?_
      refine AllReadyH.cons (o := { dst := none, op := Go.Op.store 23 (Go.Operand.tmp 11) (Go.Operand.tmp 104), type := 0, pos := "view.go:36", after := #[{ on := 12, ground := Go.Ground.data }, { on := 13, ground := Go.Ground.chain }, { on := 0, ground := Go.Ground.phase }, { on := 1, ground := Go.Ground.phase }, { on := 2, ground := Go.Ground.phase }, { on := 3, ground := Go.Ground.phase }, { on := 4, ground := Go.Ground.phase }, { on := 5, ground := Go.Ground.phase }, { on := 6, ground := Go.Ground.phase }, { on := 7, ground := Go.Ground.phase }, { on := 8, ground := Go.Ground.phase }, { on := 9, ground := Go.Ground.phase }, { on := 10, ground := Go.Ground.phase }, { on := 11, ground := Go.Ground.phase }, { on := 12, ground := Go.Ground.phase }, { on := 13, ground := Go.Ground.phase }], guard := none }) rfl (fun K hK => ?_) AllReadyH.nil
      go_simp
      refine hK.out _ _ ?_ (fun hHeld14 => ?_)
      · (try dsimp only); (exact ⟨st3_far nc2 hHeld13.1, st3_far nd2 hHeld13.2⟩)
      clear hK K hHeld13
      try simp only [Act.put, List.setIfInBounds_toArray, List.set_cons_zero, List.set_cons_succ]
      refine wpAnyH_take (i := 15) (oi := { dst := some 12, op := Go.Op.assign (Go.Operand.const (Go.Value.bool true)), type := 4, pos := "view.go:36", after := #[{ on := 14, ground := Go.Ground.chain }, { on := 0, ground := Go.Ground.phase }, { on := 1, ground := Go.Ground.phase }, { on := 2, ground := Go.Ground.phase }, { on := 3, ground := Go.Ground.phase }, { on := 4, ground := Go.Ground.phase }, { on := 5, ground := Go.Ground.phase }, { on := 6, ground := Go.Ground.phase }, { on := 7, ground := Go.Ground.phase }, { on := 8, ground := Go.Ground.phase }, { on := 9, ground := Go.Ground.phase }, { on := 10, ground := Go.Ground.phase }, { on := 11, ground := Go.Ground.phase }, { on := 12, ground := Go.Ground.phase }, { on := 13, ground := Go.Ground.phase }, { on := 14, ground := Go.Ground.phase }], guard := none }) (v := ?_) rfl (by kernel_rfl) (by kernel_rfl) (by kernel_rfl) (fun _ _ _ h => h) (Or.inl ⟨by rfl, ?_⟩) (by assumption) ?_
      rotate_left
      · intro w hSw; (try dsimp only at hSw); go_simp; (try with_reducible rfl)
      try simp only [Act.put, List.setIfInBounds_toArray, List.set_cons_zero, List.set_cons_succ]
      refine wpAnyH_done (by kernel_rfl) ?_ _
      clear hHeld14
      go_wp2_with fail
      have ny : w.heap.size + 1 + 1 ≠ w.heap.size + 1 := by omega
      have nz : w.heap.size + 1 ≠ w.heap.size + 1 + 1 := by omega
      have KZ := st3_far (i := 0) (j := 1) (k := 2) (u := .int .i64 q0) (v := .int .i64 q1) (x := .int .i64 q2) ny (st3_blk (cs' := (#[.int .i64 ax, .int .i64 ay, .int .i64 az] : Array Value)) (i := 0) (j := 1) (k := 2) (u := .int .i64 ax) (v := .int .i64 ay) (x := .int .i64 az) Z14 (by simp) (by simp) (by simp) rfl)
      have KY := st3_blk (cs' := (#[.int .i64 q0, .int .i64 q1, .int .i64 q2] : Array Value)) (i := 0) (j := 1) (k := 2) (u := .int .i64 q0) (v := .int .i64 q1) (x := .int .i64 q2) (st3_far (i := 0) (j := 1) (k := 2) (u := .int .i64 ax) (v := .int .i64 ay) (x := .int .i64 az) nz Y14) (by simp) (by simp) (by simp) rfl
      have kz0 := KZ 0
      have ky0 := KY 0
      have kz1 := KZ 1
      have ky1 := KY 1
      have kz2 := KZ 2
      have ky2 := KY 2
      clear KZ KY
      refine bodyPost_ret (v := .tuple #[V3 ax ay az, V3 q0 q1 q2, .bool true]) (by simp [results, Try.results13, go_sem, kz0, kz1, kz2, ky0, ky1, ky2]) rfl ?_
      exact ⟨rfl, by (repeat' (first | (with_reducible exact Below.refl _ _) | (with_reducible refine bstep (by with_reducible assumption) ?_) | (with_reducible refine Below.alloc ?_ ?_ _) | (with_reducible refine Below.drew ?_) | (with_reducible refine below_drewN ?_ _) | (with_reducible refine Below.setCell ?_ ?_ _) | go_size))⟩
    exact AllReadyH.nil
  refine AllReadyH.cons (o := { dst := some 14, op := Go.Op.alloc 23, type := 0, pos := "view.go:35", after := #[], guard := none }) rfl (fun K hK => ?_) ?_
  · go_simp
    refine hK.out _ _ ?_ (fun hHeld12 => ?_)
    · (try dsimp only); (exact blk_alloc (by simp) _ hHeld)
    clear hK K hHeld
    try simp only [Act.put, List.setIfInBounds_toArray, List.set_cons_zero, List.set_cons_succ]
    refine wpAnyH_ready (rs := [10]) (by kernel_rfl) (by simp) ?_
    refine AllReadyH.cons (o := { dst := some 90, op := Go.Op.call { callee := Go.Callee.value (Go.Operand.func 29), args := #[Go.Operand.tmp 83, Go.Operand.tmp 89], argTypes := #[23, 3] }, type := 23, pos := "view.go:35", after := #[{ on := 3, ground := Go.Ground.data }, { on := 9, ground := Go.Ground.data }], guard := none }) rfl (fun K hK => ?_) AllReadyH.nil
    go_simp
    (go_at_call 29; ((with_reducible refine (SA.out _).mono ?_); rintro e v11 ⟨rfl, gb11⟩))
    have Z11 := blk_later (by simp) gb11 (blk_alloc (by simp) _ (blk_drew Z9))
    have Y11 := blk_later (by simp) gb11 (blk_alloc (by simp) _ (blk_drew Y9))
    have F11 := fro_call gb11 (fro_more (show _ < v9.drew.heap.size from s9z) _ (show ∀ o, v9.drew.frozen? _ = false from F9)) (lt_here (show _ < v9.drew.heap.size from s9z))
    have G11 := fro_call gb11 (fro_more (show _ < v9.drew.heap.size from s9y) _ (show ∀ o, v9.drew.frozen? _ = false from G9)) (lt_here (show _ < v9.drew.heap.size from s9y))
    have s11z : w.heap.size + 1 < v11.heap.size := blk_lt (by simp) Z11
    have s11y : w.heap.size + 1 + 1 < v11.heap.size := blk_lt (by simp) Y11
    have D11 : ∀ o, v11.cell? ⟨v9.heap.size, o, none⟩ = (#[.int .i64 0, .int .i64 0, .int .i64 0] : Array Value)[o]? := blk_later (by simp) gb11 (new_at rfl _ _)
    have E11 : ∀ o, v11.frozen? ⟨v9.heap.size, o, none⟩ = false := fro_call gb11 (fro_new rfl _ _) (lt_new rfl)
    have s11d : v9.heap.size < v11.heap.size := blk_lt (by simp) D11
    refine hK.out _ _ ?_ (fun hHeld10 => ?_)
    · (try dsimp only); (exact blk_later (by simp) gb11 hHeld12)
    clear hK K hHeld12
    try simp only [Act.put, List.setIfInBounds_toArray, List.set_cons_zero, List.set_cons_succ]
    refine wpAnyH_ready (rs := [11]) (by kernel_rfl) (by simp) ?_
    refine AllReadyH.cons (o := { dst := some 91, op := Go.Op.call { callee := Go.Callee.value (Go.Operand.func 28), args := #[Go.Operand.tmp 81, Go.Operand.tmp 90], argTypes := #[23, 23] }, type := 23, pos := "view.go:35", after := #[{ on := 1, ground := Go.Ground.data }, { on := 10, ground := Go.Ground.data }, { on := 10, ground := Go.Ground.chain }], guard := none }) rfl (fun K hK => ?_) AllReadyH.nil
    go_simp
    (go_at_call 28; ((with_reducible refine (AA.out _).mono ?_); rintro e v12 ⟨rfl, gb12⟩))
    have Z12 := blk_later (by simp) gb12 Z11
    have Y12 := blk_later (by simp) gb12 Y11
    have F12 := fro_call gb12 F11 s11z
    have G12 := fro_call gb12 G11 s11y
    have s12z : w.heap.size + 1 < v12.heap.size := blk_lt (by simp) Z12
    have s12y : w.heap.size + 1 + 1 < v12.heap.size := blk_lt (by simp) Y12
    have D12 := blk_later (by simp) gb12 D11
    have E12 := fro_call gb12 E11 s11d
    have s12d : v9.heap.size < v12.heap.size := blk_lt (by simp) D12
    refine hK.out _ _ ?_ (fun hHeld11 => ?_)
    · (try dsimp only); (exact blk_later (by simp) gb12 hHeld10)
    clear hK K hHeld10
    try simp only [Act.put, List.setIfInBounds_toArray, List.set_cons_zero, List.set_cons_succ]
    refine wpAnyH_ready (rs := [13]) (by kernel_rfl) (by simp) ?_
    refine AllReadyH.cons (o := { dst := none, op := Go.Op.store 23 (Go.Operand.tmp 14) (Go.Operand.tmp 91), type := 0, pos := "view.go:35", after := #[{ on := 12, ground := Go.Ground.data }, { on := 11, ground := Go.Ground.data }, { on := 11, ground := Go.Ground.chain }, { on := 0, ground := Go.Ground.phase }, { on := 1, ground := Go.Ground.phase }, { on := 2, ground := Go.Ground.phase }, { on := 3, ground := Go.Ground.phase }, { on := 4, ground := Go.Ground.phase }, { on := 5, ground := Go.Ground.phase }, { on := 6, ground := Go.Ground.phase }, { on := 7, ground := Go.Ground.phase }, { on := 8, ground := Go.Ground.phase }, { on := 9, ground := Go.Ground.phase }, { on := 10, ground := Go.Ground.phase }, { on := 11, ground := Go.Ground.phase }, { on := 12, ground := Go.Ground.phase }], guard := none }) rfl (fun K hK => ?_) AllReadyH.nil
    go_simp
    refine hK.out _ _ ?_ (fun hHeld13 => ?_)
    · (try dsimp only); (exact st3_far (by omega) hHeld11)
    clear hK K hHeld11
    try simp only [Act.put, List.setIfInBounds_toArray, List.set_cons_zero, List.set_cons_succ]
    refine wpAnyH_done (by kernel_rfl) ?_ _
    have CC := hHeld13
    clear hHeld13
    have ez : v9.heap.size ≠ w.heap.size + 1 := by omega
    have ey : v9.heap.size ≠ w.heap.size + 1 + 1 := by omega
    have ZZ := st3_far (i := 0) (j := 1) (k := 2) (u := .int .i64 s0) (v := .int .i64 s1) (x := .int .i64 s2) ez Z12
    have YY := st3_far (i := 0) (j := 1) (k := 2) (u := .int .i64 s0) (v := .int .i64 s1) (x := .int .i64 s2) ey Y12
    have DD := st3_blk (cs' := (#[.int .i64 s0, .int .i64 s1, .int .i64 s2] : Array Value)) (i := 0) (j := 1) (k := 2) (u := .int .i64 s0) (v := .int .i64 s1) (x := .int .i64 s2) D12 (by simp) (by simp) (by simp) rfl
    have FF := F12
    have GG := G12
    have nd1 : w.heap.size + 1 ≠ v9.heap.size := by omega
    have nd2 : w.heap.size + 1 + 1 ≠ v9.heap.size := by omega
    have nc1 : w.heap.size + 1 ≠ w.heap.size := by omega
    have nc2 : w.heap.size + 1 + 1 ≠ w.heap.size := by omega
    go_wp2_with fail
    refine wp_region_held_drew (S := (fun w' => (∀ o, w'.cell? ⟨w.heap.size, o, none⟩ = (#[.int .i64 ax, .int .i64 ay, .int .i64 az, .int .i64 fx, .int .i64 fy, .int .i64 fz, .int .i64 rx, .int .i64 ry, .int .i64 rz, .int .i64 dx, .int .i64 dy, .int .i64 dz, .int .i64 cw, .int .i64 ch, .int .i64 cg, .int .i64 cd] : Array Value)[o]?) ∧ (∀ o, w'.cell? ⟨v9.heap.size, o, none⟩ = (#[.int .i64 s0, .int .i64 s1, .int .i64 s2] : Array Value)[o]?))) (by kernel_rfl) ?_ (fun hHeld => ?_)
    · (try dsimp only); (exact ⟨CC, DD⟩)
    refine wpAnyH_take (i := 0) (oi := { dst := some 92, op := Go.Op.fieldAddr 25 (Go.Operand.tmp 5) 0, type := 0, pos := "view.go:36", after := #[], guard := none }) (v := ?_) rfl (by kernel_rfl) (by kernel_rfl) (by kernel_rfl) (fun _ _ _ h => h) (Or.inl ⟨by rfl, ?_⟩) (by assumption) ?_
    rotate_left
    · intro w hSw; (try dsimp only at hSw); go_simp; (try with_reducible rfl)
    try simp only [Act.put, List.setIfInBounds_toArray, List.set_cons_zero, List.set_cons_succ]
    refine wpAnyH_take (i := 1) (oi := { dst := some 93, op := Go.Op.load 23 (Go.Operand.tmp 92), type := 23, pos := "view.go:36", after := #[{ on := 0, ground := Go.Ground.data }], guard := none }) (v := ?_) rfl (by kernel_rfl) (by kernel_rfl) (by kernel_rfl) (fun _ _ _ h => h) (Or.inl ⟨by rfl, ?_⟩) (by assumption) ?_
    rotate_left
    · intro w hSw; (try dsimp only at hSw); go_simp; (try with_reducible rfl)
    try simp only [Act.put, List.setIfInBounds_toArray, List.set_cons_zero, List.set_cons_succ]
    refine wpAnyH_take (i := 2) (oi := { dst := some 94, op := Go.Op.load 23 (Go.Operand.tmp 14), type := 23, pos := "view.go:36", after := #[], guard := none }) (v := ?_) rfl (by kernel_rfl) (by kernel_rfl) (by kernel_rfl) (fun _ _ _ h => h) (Or.inl ⟨by rfl, ?_⟩) (by assumption) ?_
    rotate_left
    · intro w hSw; (try dsimp only at hSw); go_simp; (try with_reducible rfl)
    try simp only [Act.put, List.setIfInBounds_toArray, List.set_cons_zero, List.set_cons_succ]
    refine wpAnyH_take (i := 3) (oi := { dst := some 95, op := Go.Op.fieldAddr 25 (Go.Operand.tmp 5) 3, type := 0, pos := "view.go:36", after := #[], guard := none }) (v := ?_) rfl (by kernel_rfl) (by kernel_rfl) (by kernel_rfl) (fun _ _ _ h => h) (Or.inl ⟨by rfl, ?_⟩) (by assumption) ?_
    rotate_left
    · intro w hSw; (try dsimp only at hSw); go_simp; (try with_reducible rfl)
    try simp only [Act.put, List.setIfInBounds_toArray, List.set_cons_zero, List.set_cons_succ]
    refine wpAnyH_take (i := 4) (oi := { dst := some 96, op := Go.Op.load 23 (Go.Operand.tmp 95), type := 23, pos := "view.go:36", after := #[{ on := 3, ground := Go.Ground.data }], guard := none }) (v := ?_) rfl (by kernel_rfl) (by kernel_rfl) (by kernel_rfl) (fun _ _ _ h => h) (Or.inl ⟨by rfl, ?_⟩) (by assumption) ?_
    rotate_left
    · intro w hSw; (try dsimp only at hSw); go_simp; (try with_reducible rfl)
    try simp only [Act.put, List.setIfInBounds_toArray, List.set_cons_zero, List.set_cons_succ]
    refine wpAnyH_take (i := 5) (oi := { dst := some 97, op := Go.Op.move (Go.Operand.tmp 2), type := 3, pos := "view.go:36", after := #[], guard := none }) (v := ?_) rfl (by kernel_rfl) (by kernel_rfl) (by kernel_rfl) (fun _ _ _ h => h) (Or.inl ⟨by rfl, ?_⟩) (by assumption) ?_
    rotate_left
    · intro w hSw; (try dsimp only at hSw); go_simp; (try with_reducible rfl)
    try simp only [Act.put, List.setIfInBounds_toArray, List.set_cons_zero, List.set_cons_succ]
    refine wpAnyH_take (i := 6) (oi := { dst := some 98, op := Go.Op.fieldAddr 25 (Go.Operand.tmp 5) 6, type := 0, pos := "view.go:36", after := #[], guard := none }) (v := ?_) rfl (by kernel_rfl) (by kernel_rfl) (by kernel_rfl) (fun _ _ _ h => h) (Or.inl ⟨by rfl, ?_⟩) (by assumption) ?_
    rotate_left
    · intro w hSw; (try dsimp only at hSw); go_simp; (try with_reducible rfl)
    try simp only [Act.put, List.setIfInBounds_toArray, List.set_cons_zero, List.set_cons_succ]
    refine wpAnyH_take (i := 7) (oi := { dst := some 99, op := Go.Op.load 3 (Go.Operand.tmp 98), type := 3, pos := "view.go:36", after := #[{ on := 6, ground := Go.Ground.data }], guard := none }) (v := ?_) rfl (by kernel_rfl) (by kernel_rfl) (by kernel_rfl) (fun _ _ _ h => h) (Or.inl ⟨by rfl, ?_⟩) (by assumption) ?_
    rotate_left
    · intro w hSw; (try dsimp only at hSw); go_simp; (try with_reducible rfl)
    try simp only [Act.put, List.setIfInBounds_toArray, List.set_cons_zero, List.set_cons_succ]
    refine wpAnyH_take (i := 8) (oi := { dst := some 100, op := Go.Op.binOp Go.BinOp.mul 3 (Go.Operand.tmp 97) (Go.Operand.tmp 99) 3, type := 3, pos := "view.go:36", after := #[{ on := 5, ground := Go.Ground.data }, { on := 7, ground := Go.Ground.data }], guard := none }) (v := ?_) rfl (by kernel_rfl) (by kernel_rfl) (by kernel_rfl) (fun _ _ _ h => h) (Or.inl ⟨by rfl, ?_⟩) (by assumption) ?_
    rotate_left
    · intro w hSw; (try dsimp only at hSw); go_simp; (try with_reducible rfl)
    try simp only [Act.put, List.setIfInBounds_toArray, List.set_cons_zero, List.set_cons_succ]
    refine wpAnyH_take (i := 9) (oi := { dst := some 101, op := Go.Op.move (Go.Operand.tmp 4), type := 3, pos := "view.go:36", after := #[], guard := none }) (v := ?_) rfl (by kernel_rfl) (by kernel_rfl) (by kernel_rfl) (fun _ _ _ h => h) (Or.inl ⟨by rfl, ?_⟩) (by assumption) ?_
    rotate_left
    · intro w hSw; (try dsimp only at hSw); go_simp; (try with_reducible rfl)
    try simp only [Act.put, List.setIfInBounds_toArray, List.set_cons_zero, List.set_cons_succ]
    refine wpAnyH_take (i := 10) (oi := { dst := some 102, op := Go.Op.binOp Go.BinOp.add 3 (Go.Operand.tmp 100) (Go.Operand.tmp 101) 3, type := 3, pos := "view.go:36", after := #[{ on := 8, ground := Go.Ground.data }, { on := 9, ground := Go.Ground.data }], guard := none }) (v := ?_) rfl (by kernel_rfl) (by kernel_rfl) (by kernel_rfl) (fun _ _ _ h => h) (Or.inl ⟨by rfl, ?_⟩) (by assumption) ?_
    rotate_left
    · intro w hSw; (try dsimp only at hSw); go_simp; (try with_reducible rfl)
    try simp only [Act.put, List.setIfInBounds_toArray, List.set_cons_zero, List.set_cons_succ]
    refine wpAnyH_ready (rs := [11]) (by kernel_rfl) (by simp) ?_
    refine AllReadyH.cons (o := { dst := some 103, op := Go.Op.call { callee := Go.Callee.value (Go.Operand.func 29), args := #[Go.Operand.tmp 96, Go.Operand.tmp 102], argTypes := #[23, 3] }, type := 23, pos := "view.go:36", after := #[{ on := 4, ground := Go.Ground.data }, { on := 10, ground := Go.Ground.data }], guard := none }) rfl (fun K hK => ?_) AllReadyH.nil
    go_simp
    (go_at_call 29; ((with_reducible refine (SB.out _).mono ?_); rintro e v13 ⟨rfl, gb13⟩))
    have Z13 := blk_later (by simp) gb13 (blk_drew ZZ)
    have Y13 := blk_later (by simp) gb13 (blk_drew YY)
    have F13 : ∀ o, v13.frozen? ⟨w.heap.size + 1, o, none⟩ = false := fro_call gb13 (fun o => by simp [FF]) (by simp; omega)
    have G13 : ∀ o, v13.frozen? ⟨w.heap.size + 1 + 1, o, none⟩ = false := fro_call gb13 (fun o => by simp [GG]) (by simp; omega)
    have s13z : w.heap.size + 1 < v13.heap.size := blk_lt (by simp) Z13
    have s13y : w.heap.size + 1 + 1 < v13.heap.size := blk_lt (by simp) Y13
    refine hK.out _ _ ?_ (fun hHeld11 => ?_)
    · (try dsimp only); (exact ⟨blk_later (by simp) gb13 hHeld.1, blk_later (by simp) gb13 hHeld.2⟩)
    clear hK K hHeld
    try simp only [Act.put, List.setIfInBounds_toArray, List.set_cons_zero, List.set_cons_succ]
    refine wpAnyH_ready (rs := [12]) (by kernel_rfl) (by simp) ?_
    refine AllReadyH.cons (o := { dst := some 104, op := Go.Op.call { callee := Go.Callee.value (Go.Operand.func 28), args := #[Go.Operand.tmp 94, Go.Operand.tmp 103], argTypes := #[23, 23] }, type := 23, pos := "view.go:36", after := #[{ on := 2, ground := Go.Ground.data }, { on := 11, ground := Go.Ground.data }, { on := 11, ground := Go.Ground.chain }], guard := none }) rfl (fun K hK => ?_) AllReadyH.nil
    go_simp
    (go_at_call 28; ((with_reducible refine (AB.out _).mono ?_); rintro e v14 ⟨rfl, gb14⟩))
    have Z14 := blk_later (by simp) gb14 Z13
    have Y14 := blk_later (by simp) gb14 Y13
    have F14 := fro_call gb14 F13 s13z
    have G14 := fro_call gb14 G13 s13y
    have s14z : w.heap.size + 1 < v14.heap.size := blk_lt (by simp) Z14
    have s14y : w.heap.size + 1 + 1 < v14.heap.size := blk_lt (by simp) Y14
    refine hK.out _ _ ?_ (fun hHeld12 => ?_)
    · (try dsimp only); (exact ⟨blk_later (by simp) gb14 hHeld11.1, blk_later (by simp) gb14 hHeld11.2⟩)
    clear hK K hHeld11
    try simp only [Act.put, List.setIfInBounds_toArray, List.set_cons_zero, List.set_cons_succ]
    refine wpAnyH_ready (rs := [13]) (by kernel_rfl) (by simp) ?_
    refine AllReadyH.cons (o := { dst := none, op := Go.Op.store 23 (Go.Operand.tmp 10) (Go.Operand.tmp 93), type := 0, pos := "view.go:36", after := #[{ on := 1, ground := Go.Ground.data }, { on := 12, ground := Go.Ground.chain }, { on := 0, ground := Go.Ground.phase }, { on := 1, ground := Go.Ground.phase }, { on := 2, ground := Go.Ground.textOnly Go.Departure.lateStores }, { on := 3, ground := Go.Ground.textOnly Go.Departure.lateStores }, { on := 4, ground := Go.Ground.textOnly Go.Departure.lateStores }, { on := 5, ground := Go.Ground.textOnly Go.Departure.lateStores }, { on := 6, ground := Go.Ground.textOnly Go.Departure.lateStores }, { on := 7, ground := Go.Ground.textOnly Go.Departure.lateStores }, { on := 8, ground := Go.Ground.textOnly Go.Departure.lateStores }, { on := 9, ground := Go.Ground.textOnly Go.Departure.lateStores }, { on := 10, ground := Go.Ground.textOnly Go.Departure.lateStores }, { on := 11, ground := Go.Ground.textOnly Go.Departure.lateStoresUnsure }, { on := 12, ground := Go.Ground.textOnly Go.Departure.lateStoresUnsure }], guard := none }) rfl (fun K hK => ?_) AllReadyH.nil
    go_simp
    refine hK.out _ _ ?_ (fun hHeld13 => ?_)
    · (try dsimp only); (exact ⟨st3_far nc1 hHeld12.1, st3_far nd1 hHeld12.2⟩)
    clear hK K hHeld12
    try simp only [Act.put, List.setIfInBounds_toArray, List.set_cons_zero, List.set_cons_succ]
    refine wpAnyH_ready (rs := [14]) (by kernel_rfl) (by simp) ?_
    refine AllReadyH.cons (o := { dst := none, op := Go.Op.store 23 (Go.Operand.tmp 11) (Go.Operand.tmp 104), type := 0, pos := "view.go:36", after := #[{ on := 12, ground := Go.Ground.data }, { on := 13, ground := Go.Ground.chain }, { on := 0, ground := Go.Ground.phase }, { on := 1, ground := Go.Ground.phase }, { on := 2, ground := Go.Ground.phase }, { on := 3, ground := Go.Ground.phase }, { on := 4, ground := Go.Ground.phase }, { on := 5, ground := Go.Ground.phase }, { on := 6, ground := Go.Ground.phase }, { on := 7, ground := Go.Ground.phase }, { on := 8, ground := Go.Ground.phase }, { on := 9, ground := Go.Ground.phase }, { on := 10, ground := Go.Ground.phase }, { on := 11, ground := Go.Ground.phase }, { on := 12, ground := Go.Ground.phase }, { on := 13, ground := Go.Ground.phase }], guard := none }) rfl (fun K hK => ?_) AllReadyH.nil
    go_simp
    refine hK.out _ _ ?_ (fun hHeld14 => ?_)
    · (try dsimp only); (exact ⟨st3_far nc2 hHeld13.1, st3_far nd2 hHeld13.2⟩)
    clear hK K hHeld13
    try simp only [Act.put, List.setIfInBounds_toArray, List.set_cons_zero, List.set_cons_succ]
    refine wpAnyH_take (i := 15) (oi := { dst := some 12, op := Go.Op.assign (Go.Operand.const (Go.Value.bool true)), type := 4, pos := "view.go:36", after := #[{ on := 14, ground := Go.Ground.chain }, { on := 0, ground := Go.Ground.phase }, { on := 1, ground := Go.Ground.phase }, { on := 2, ground := Go.Ground.phase }, { on := 3, ground := Go.Ground.phase }, { on := 4, ground := Go.Ground.phase }, { on := 5, ground := Go.Ground.phase }, { on := 6, ground := Go.Ground.phase }, { on := 7, ground := Go.Ground.phase }, { on := 8, ground := Go.Ground.phase }, { on := 9, ground := Go.Ground.phase }, { on := 10, ground := Go.Ground.phase }, { on := 11, ground := Go.Ground.phase }, { on := 12, ground := Go.Ground.phase }, { on := 13, ground := Go.Ground.phase }, { on := 14, ground := Go.Ground.phase }], guard := none }) (v := ?_) rfl (by kernel_rfl) (by kernel_rfl) (by kernel_rfl) (fun _ _ _ h => h) (Or.inl ⟨by rfl, ?_⟩) (by assumption) ?_
    rotate_left
    · intro w hSw; (try dsimp only at hSw); go_simp; (try with_reducible rfl)
    try simp only [Act.put, List.setIfInBounds_toArray, List.set_cons_zero, List.set_cons_succ]
    refine wpAnyH_done (by kernel_rfl) ?_ _
    clear hHeld14
    go_wp2_with fail
    have ny : w.heap.size + 1 + 1 ≠ w.heap.size + 1 := by omega
    have nz : w.heap.size + 1 ≠ w.heap.size + 1 + 1 := by omega
    have KZ := st3_far (i := 0) (j := 1) (k := 2) (u := .int .i64 q0) (v := .int .i64 q1) (x := .int .i64 q2) ny (st3_blk (cs' := (#[.int .i64 ax, .int .i64 ay, .int .i64 az] : Array Value)) (i := 0) (j := 1) (k := 2) (u := .int .i64 ax) (v := .int .i64 ay) (x := .int .i64 az) Z14 (by simp) (by simp) (by simp) rfl)
    have KY := st3_blk (cs' := (#[.int .i64 q0, .int .i64 q1, .int .i64 q2] : Array Value)) (i := 0) (j := 1) (k := 2) (u := .int .i64 q0) (v := .int .i64 q1) (x := .int .i64 q2) (st3_far (i := 0) (j := 1) (k := 2) (u := .int .i64 ax) (v := .int .i64 ay) (x := .int .i64 az) nz Y14) (by simp) (by simp) (by simp) rfl
    have kz0 := KZ 0
    have ky0 := KY 0
    have kz1 := KZ 1
    have ky1 := KY 1
    have kz2 := KZ 2
    have ky2 := KY 2
    clear KZ KY
    refine bodyPost_ret (v := .tuple #[V3 ax ay az, V3 q0 q1 q2, .bool true]) (by simp [results, Try.results13, go_sem, kz0, kz1, kz2, ky0, ky1, ky2]) rfl ?_
    exact ⟨rfl, by (repeat' (first | (with_reducible exact Below.refl _ _) | (with_reducible refine bstep (by with_reducible assumption) ?_) | (with_reducible refine Below.alloc ?_ ?_ _) | (with_reducible refine Below.drew ?_) | (with_reducible refine below_drewN ?_ _) | (with_reducible refine Below.setCell ?_ ?_ _) | go_size))⟩
  exact AllReadyH.nil
theorem ray_no (ax ay az fx fy fz rx ry rz dx dy dz cw ch cg cd x y a b : Int) (hok : rayok ax ay az fx fy fz rx ry rz dx dy dz cw ch cg cd x y a b = false) (w : World) :
    Calls Try.prog 13 #[Cam ax ay az fx fy fz rx ry rz dx dy dz cw ch cg cd, .int .i64 x, .int .i64 y, .int .i64 a, .int .i64 b] w fun e w' => e = .returned (.tuple #[V3 0 0 0, V3 0 0 0, .bool false]) ∧ Below w.heap.size w w' := by
  cases h1 : am2 1 64 cw ch
  · exact ray_no1 ax ay az fx fy fz rx ry rz dx dy dz cw ch cg cd x y a b h1 w
  cases h2 : am1 1 4 cg
  · exact ray_no2 ax ay az fx fy fz rx ry rz dx dy dz cw ch cg cd x y a b h1 h2 w
  cases h3 : inB ax ay az 1048576
  · exact ray_no3 ax ay az fx fy fz rx ry rz dx dy dz cw ch cg cd x y a b h1 h2 h3 w
  cases h4 : inB fx fy fz 1048576
  · exact ray_no4 ax ay az fx fy fz rx ry rz dx dy dz cw ch cg cd x y a b h1 h2 h3 h4 w
  cases h5 : inB rx ry rz 1024
  · exact ray_no5 ax ay az fx fy fz rx ry rz dx dy dz cw ch cg cd x y a b h1 h2 h3 h4 h5 w
  cases h6 : inB dx dy dz 1024
  · exact ray_no6 ax ay az fx fy fz rx ry rz dx dy dz cw ch cg cd x y a b h1 h2 h3 h4 h5 h6 w
  cases h7 : am1 0 (cw - 1) x
  · exact ray_no7 ax ay az fx fy fz rx ry rz dx dy dz cw ch cg cd x y a b h1 h2 h3 h4 h5 h6 h7 w
  cases h8 : am1 0 (ch - 1) y
  · exact ray_no8 ax ay az fx fy fz rx ry rz dx dy dz cw ch cg cd x y a b h1 h2 h3 h4 h5 h6 h7 h8 w
  cases h9 : am2 0 (cg - 1) a b
  · exact ray_no9 ax ay az fx fy fz rx ry rz dx dy dz cw ch cg cd x y a b h1 h2 h3 h4 h5 h6 h7 h8 h9 w
  simp [rayok, h1, h2, h3, h4, h5, h6, h7, h8, h9] at hok
end Go.Proofs.Ytoalihdempcbjaa
