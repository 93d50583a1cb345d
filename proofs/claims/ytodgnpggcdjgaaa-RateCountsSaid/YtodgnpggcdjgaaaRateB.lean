/- What package rate answers of a curve: contracts of way, Length and Edge, for all points of 64 bits. -/
import Derived.Test.YtodgnpggcdjgaaaBlk
import Derived.Deep.LoopGhost
import Derived.Deep.DeepCutAuto
import Derived.IntWalk
namespace Go.Proofs.Ytodgnpggcdjgaaa
open Go.RowKit
set_option maxRecDepth 100000
set_option linter.unusedSimpArgs false
set_option linter.unusedVariables false
/-- How far it is along the grid. -/
def wayF (x y z : Int) : Int := mx x (-x) + mx y (-y) + mx z (-z)
theorem way_any (x y z : Int) (hx : -131072 ≤ x ∧ x ≤ 131072) (hy : -131072 ≤ y ∧ y ≤ 131072) (hz : -131072 ≤ z ∧ z ≤ 131072) (w : World) :
    Calls Try.prog 40 #[V3 x y z] w fun e w' => e = .returned (.int .i64 (wayF x y z)) ∧ Below w.heap.size w w' := by
  obtain ⟨x1, x2⟩ := hx
  obtain ⟨y1, y2⟩ := hy
  obtain ⟨z1, z2⟩ := hz
  have a1 : 0 ≤ mx x (-x) := by unfold mx; split <;> omega
  have a2 : mx x (-x) ≤ 131072 := by unfold mx; split <;> omega
  have b1 : 0 ≤ mx y (-y) := by unfold mx; split <;> omega
  have b2 : mx y (-y) ≤ 131072 := by unfold mx; split <;> omega
  have c1 : 0 ≤ mx z (-z) := by unfold mx; split <;> omega
  have c2 : mx z (-z) ≤ 131072 := by unfold mx; split <;> omega
  unfold wayF
  go_enter Try.func40, Try.ntmps40
  go_wp2
  go_returns
  exact ⟨rfl, by go_grown⟩
/-- Where the loop stands: the number of points seen, the length so far. -/
def LenRel (g b : Nat) (cs : Array Value) (s0 s1 s2 s3 s4 : Int) (w : World) (k : Nat) (n i : Value) (wr : World) : Prop :=
  ((k = 4 ∧ i = .int .i64 0 ∧ n = .int .i64 s0 ∧ 0 ≤ g) ∨ (k = 3 ∧ i = .int .i64 1 ∧ n = .int .i64 s1 ∧ 1 ≤ g) ∨ (k = 2 ∧ i = .int .i64 2 ∧ n = .int .i64 s2 ∧ 2 ≤ g) ∨ (k = 1 ∧ i = .int .i64 3 ∧ n = .int .i64 s3 ∧ 3 ≤ g) ∨ (k = 0 ∧ i = .int .i64 4 ∧ n = .int .i64 s4 ∧ 4 ≤ g)) ∧ (∀ o, wr.cell? ⟨b, o, none⟩ = cs[o]?) ∧ b < wr.heap.size ∧ Below b w wr
theorem sub_in (x y z a b c p q r : Int) (h1 : x - a = p) (h2 : y - b = q) (h3 : z - c = r) (k1 : -131072 ≤ p ∧ p ≤ 131072) (k2 : -131072 ≤ q ∧ q ≤ 131072) (k3 : -131072 ≤ r ∧ r ≤ 131072) (w : World) : Calls Try.prog 27 #[V3 x y z, V3 a b c] w fun e w' => e = .returned (V3 p q r) ∧ Below w.heap.size w w' := by
  subst h1 h2 h3
  have := sub_any x y z a b c w
  rw [w64 (x := x - a) (by omega) (by omega), w64 (x := y - b) (by omega) (by omega), w64 (x := z - c) (by omega) (by omega)] at this
  exact this
theorem wayF_le (x y z : Int) (hx : -131072 ≤ x ∧ x ≤ 131072) (hy : -131072 ≤ y ∧ y ≤ 131072) (hz : -131072 ≤ z ∧ z ≤ 131072) : 0 ≤ wayF x y z ∧ wayF x y z ≤ 393216 := by unfold wayF mx; repeat' split <;> omega
def lenF (x0 y0 z0 x1 y1 z1 x2 y2 z2 x3 y3 z3 : Int) : Int := wayF (x1 - x0) (y1 - y0) (z1 - z0) + wayF (x2 - x1) (y2 - y1) (z2 - z1) + wayF (x3 - x2) (y3 - y2) (z3 - z2)
def allIn (x0 y0 z0 x1 y1 z1 x2 y2 z2 x3 y3 z3 : Int) : Bool := inB x0 y0 z0 65536 && inB x1 y1 z1 65536 && inB x2 y2 z2 65536 && inB x3 y3 z3 65536
set_option maxHeartbeats 2000000 in
theorem len_4 (x0 y0 z0 x1 y1 z1 x2 y2 z2 x3 y3 z3 : Int) (w : World) (h0 : inB x0 y0 z0 65536 = true) (h1 : inB x1 y1 z1 65536 = true) (h2 : inB x2 y2 z2 65536 = true) (h3 : inB x3 y3 z3 65536 = true) :
    Calls Try.prog 16 #[.agg (C12 x0 y0 z0 x1 y1 z1 x2 y2 z2 x3 y3 z3)] w fun e w' => e = .returned (.tuple #[.int .i64 (lenF x0 y0 z0 x1 y1 z1 x2 y2 z2 x3 y3 z3), .bool true]) ∧ Below w.heap.size w w' := by
  have i0 : ∀ w : World, (Instr.index 24 (.agg (C12 x0 y0 z0 x1 y1 z1 x2 y2 z2 x3 y3 z3)) (.int .i64 0)).run Try.prog w = .ok (V3 x0 y0 z0) w := fun _ => by kernel_rfl
  have i1 : ∀ w : World, (Instr.index 24 (.agg (C12 x0 y0 z0 x1 y1 z1 x2 y2 z2 x3 y3 z3)) (.int .i64 1)).run Try.prog w = .ok (V3 x1 y1 z1) w := fun _ => by kernel_rfl
  have i2 : ∀ w : World, (Instr.index 24 (.agg (C12 x0 y0 z0 x1 y1 z1 x2 y2 z2 x3 y3 z3)) (.int .i64 2)).run Try.prog w = .ok (V3 x2 y2 z2) w := fun _ => by kernel_rfl
  have i3 : ∀ w : World, (Instr.index 24 (.agg (C12 x0 y0 z0 x1 y1 z1 x2 y2 z2 x3 y3 z3)) (.int .i64 3)).run Try.prog w = .ok (V3 x3 y3 z3) w := fun _ => by kernel_rfl
  have W0 : Hid (∀ w, Calls Try.prog 17 #[V3 x0 y0 z0, .int .i64 65536] w fun e w' => e = .returned (.bool true) ∧ Below w.heap.size w w') := by
    intro w; have := within_any x0 y0 z0 65536 w; rw [h0] at this; exact this
  have W1 : Hid (∀ w, Calls Try.prog 17 #[V3 x1 y1 z1, .int .i64 65536] w fun e w' => e = .returned (.bool true) ∧ Below w.heap.size w w') := by
    intro w; have := within_any x1 y1 z1 65536 w; rw [h1] at this; exact this
  have W2 : Hid (∀ w, Calls Try.prog 17 #[V3 x2 y2 z2, .int .i64 65536] w fun e w' => e = .returned (.bool true) ∧ Below w.heap.size w w') := by
    intro w; have := within_any x2 y2 z2 65536 w; rw [h2] at this; exact this
  have W3 : Hid (∀ w, Calls Try.prog 17 #[V3 x3 y3 z3, .int .i64 65536] w fun e w' => e = .returned (.bool true) ∧ Below w.heap.size w w') := by
    intro w; have := within_any x3 y3 z3 65536 w; rw [h3] at this; exact this
  rw [inB_iff (by omega) (by omega)] at h0
  rw [inB_iff (by omega) (by omega)] at h1
  rw [inB_iff (by omega) (by omega)] at h2
  rw [inB_iff (by omega) (by omega)] at h3
  have S0 : Hid (∀ w, Calls Try.prog 27 #[V3 x0 y0 z0, V3 x0 y0 z0] w fun e w' => e = .returned (V3 0 0 0) ∧ Below w.heap.size w w') := sub_in _ _ _ _ _ _ _ _ _ (by omega) (by omega) (by omega) (by omega) (by omega) (by omega)
  have Y0 : Hid (∀ w, Calls Try.prog 40 #[V3 0 0 0] w fun e w' => e = .returned (.int .i64 0) ∧ Below w.heap.size w w') := way_any 0 0 0 (by omega) (by omega) (by omega)
  obtain ⟨dx1, ex1⟩ : ∃ d, x1 - x0 = d := ⟨_, rfl⟩
  obtain ⟨dy1, ey1⟩ : ∃ d, y1 - y0 = d := ⟨_, rfl⟩
  obtain ⟨dz1, ez1⟩ : ∃ d, z1 - z0 = d := ⟨_, rfl⟩
  have ⟨l1, u1⟩ := wayF_le dx1 dy1 dz1 (by omega) (by omega) (by omega)
  have S1 : Hid (∀ w, Calls Try.prog 27 #[V3 x1 y1 z1, V3 x0 y0 z0] w fun e w' => e = .returned (V3 dx1 dy1 dz1) ∧ Below w.heap.size w w') := sub_in _ _ _ _ _ _ _ _ _ ex1 ey1 ez1 (by omega) (by omega) (by omega)
  have Y1 : Hid (∀ w, Calls Try.prog 40 #[V3 dx1 dy1 dz1] w fun e w' => e = .returned (.int .i64 (wayF dx1 dy1 dz1)) ∧ Below w.heap.size w w') := way_any dx1 dy1 dz1 (by omega) (by omega) (by omega)
  obtain ⟨dx2, ex2⟩ : ∃ d, x2 - x1 = d := ⟨_, rfl⟩
  obtain ⟨dy2, ey2⟩ : ∃ d, y2 - y1 = d := ⟨_, rfl⟩
  obtain ⟨dz2, ez2⟩ : ∃ d, z2 - z1 = d := ⟨_, rfl⟩
  have ⟨l2, u2⟩ := wayF_le dx2 dy2 dz2 (by omega) (by omega) (by omega)
  have S2 : Hid (∀ w, Calls Try.prog 27 #[V3 x2 y2 z2, V3 x1 y1 z1] w fun e w' => e = .returned (V3 dx2 dy2 dz2) ∧ Below w.heap.size w w') := sub_in _ _ _ _ _ _ _ _ _ ex2 ey2 ez2 (by omega) (by omega) (by omega)
  have Y2 : Hid (∀ w, Calls Try.prog 40 #[V3 dx2 dy2 dz2] w fun e w' => e = .returned (.int .i64 (wayF dx2 dy2 dz2)) ∧ Below w.heap.size w w') := way_any dx2 dy2 dz2 (by omega) (by omega) (by omega)
  obtain ⟨dx3, ex3⟩ : ∃ d, x3 - x2 = d := ⟨_, rfl⟩
  obtain ⟨dy3, ey3⟩ : ∃ d, y3 - y2 = d := ⟨_, rfl⟩
  obtain ⟨dz3, ez3⟩ : ∃ d, z3 - z2 = d := ⟨_, rfl⟩
  have ⟨l3, u3⟩ := wayF_le dx3 dy3 dz3 (by omega) (by omega) (by omega)
  have S3 : Hid (∀ w, Calls Try.prog 27 #[V3 x3 y3 z3, V3 x2 y2 z2] w fun e w' => e = .returned (V3 dx3 dy3 dz3) ∧ Below w.heap.size w w') := sub_in _ _ _ _ _ _ _ _ _ ex3 ey3 ez3 (by omega) (by omega) (by omega)
  have Y3 : Hid (∀ w, Calls Try.prog 40 #[V3 dx3 dy3 dz3] w fun e w' => e = .returned (.int .i64 (wayF dx3 dy3 dz3)) ∧ Below w.heap.size w w') := way_any dx3 dy3 dz3 (by omega) (by omega) (by omega)
  unfold lenF
  rw [ex1, ey1, ez1, ex2, ey2, ez2, ex3, ey3, ez3]
  obtain ⟨a1, ea1⟩ : ∃ a, wayF dx1 dy1 dz1 = a := ⟨_, rfl⟩
  rw [ea1] at l1 u1 Y1 ⊢
  obtain ⟨a2, ea2⟩ : ∃ a, wayF dx2 dy2 dz2 = a := ⟨_, rfl⟩
  rw [ea2] at l2 u2 Y2 ⊢
  obtain ⟨a3, ea3⟩ : ∃ a, wayF dx3 dy3 dz3 = a := ⟨_, rfl⟩
  rw [ea3] at l3 u3 Y3 ⊢
  clear h0 h1 h2 h3 ex1 ey1 ez1 ex2 ey2 ez2 ex3 ey3 ez3 ea1 ea2 ea3
  have m0 : mx (-1) 0 = 0 := by decide
  have m1 : mx 0 0 = 0 := by decide
  have m2 : mx 1 0 = 1 := by decide
  have m3 : mx 2 0 = 2 := by decide
  have n0 : IntKind.i64.wrap (-1) = -1 := by decide
  have n1 : IntKind.i64.wrap 0 = 0 := by decide
  have n2 : IntKind.i64.wrap 1 = 1 := by decide
  have n3 : IntKind.i64.wrap 2 = 2 := by decide
  have n4 : IntKind.i64.wrap a1 = a1 := IntWalk.i64_in _ (by omega)
  have n5 : IntKind.i64.wrap (a1 + a2) = a1 + a2 := IntWalk.i64_in _ (by omega)
  have n6 : IntKind.i64.wrap (a1 + a2 + a3) = a1 + a2 + a3 := IntWalk.i64_in _ (by omega)
  go_enter Try.func16, Try.ntmps16
  go_wp2
  go_loopg [4, 8] 4 (fun k n i wr => LenRel 4 w.heap.size (C12 x0 y0 z0 x1 y1 z1 x2 y2 z2 x3 y3 z3) 0 0 a1 (a1 + a2) (a1 + a2 + a3) w k n i wr)
  case atStart => exact ⟨.inl ⟨rfl, rfl, rfl, by omega⟩, fun o => by rw [World.cell?_alloc_new], by simp, (Below.refl _ _).alloc (Nat.le_refl _) _⟩
  case round =>
    obtain ⟨hk, hp, hlt, hB⟩ := hrel
    have HB := Lib.hid hB
    clear hB
    rcases hk with ⟨rfl, rfl, rfl, hg⟩ | ⟨rfl, rfl, rfl, hg⟩ | ⟨rfl, rfl, rfl, hg⟩ | ⟨rfl, rfl, rfl, hg⟩ | ⟨rfl, rfl, rfl, hg⟩
    · go_wp2_with (go_at_call 17; ((with_reducible refine (W0.out _).mono ?_); rintro e w3 ⟨rfl, hb3⟩))
      have hp3 := blk_later (by simp) hb3 (blk_alloc (by simp) (.cells (#[.int .i64 x0, .int .i64 y0, .int .i64 z0] : Array Value) 23) hp)
      have hv3 : ∀ o, w3.cell? ⟨wr.heap.size, o, none⟩ = (#[.int .i64 x0, .int .i64 y0, .int .i64 z0] : Array Value)[o]? := blk_later (by simp) hb3 (fun o => by rw [World.cell?_alloc_new])
      clear hp
      go_region_held3 (fun w' => (∀ o, w'.cell? ⟨w.heap.size, o, none⟩ = (C12 x0 y0 z0 x1 y1 z1 x2 y2 z2 x3 y3 z3)[o]?) ∧ (∀ o, w'.cell? ⟨wr.heap.size, o, none⟩ = (#[.int .i64 x0, .int .i64 y0, .int .i64 z0] : Array Value)[o]?)) (((first | (go_split_ands; skip) | skip); (repeat' apply And.intro) <;> (first | assumption | (with_reducible exact blk_drew (by assumption)) | (with_reducible exact blk_later (by simp) (by assumption) (by assumption)) | (with_reducible exact blk_alloc (by simp) _ (by assumption)))))
        (first
          | (go_at_call 27; ((with_reducible refine (S0.out _).mono ?_); rintro e w5 ⟨rfl, hb5⟩))
          | (go_at_call 40; ((with_reducible refine (Y0.out _).mono ?_); rintro e w6 ⟨rfl, hb6⟩)))
      all_goals
        go_wp2
        go_roundg 3
        case measure => omega
        case rel =>
          have HB' := HB.out
          have hq : ∀ o, w6.cell? ⟨w.heap.size, o, none⟩ = (C12 x0 y0 z0 x1 y1 z1 x2 y2 z2 x3 y3 z3)[o]? := by
            go_split_ands
            first | assumption | (exact blk_later (by simp) hb6 (by assumption)) | (exact blk_later (by simp) hb6 (blk_later (by simp) hb5 hp3))
          exact ⟨.inr (.inl ⟨rfl, by simp, by simp, by omega⟩), hq, World.block_lt_of_cell? _ _ (hq 0), by (repeat' (first | (with_reducible exact Below.refl _ _) | (with_reducible refine bstep (by with_reducible assumption) ?_) | (with_reducible refine Below.alloc ?_ ?_ _) | (with_reducible refine Below.drew ?_) | (with_reducible refine below_drewN ?_ _) | (with_reducible refine Below.setCell ?_ ?_ _) | go_size))⟩
    · go_wp2_with (go_at_call 17; ((with_reducible refine (W1.out _).mono ?_); rintro e w3 ⟨rfl, hb3⟩))
      have hp3 := blk_later (by simp) hb3 (blk_alloc (by simp) (.cells (#[.int .i64 x1, .int .i64 y1, .int .i64 z1] : Array Value) 23) hp)
      have hv3 : ∀ o, w3.cell? ⟨wr.heap.size, o, none⟩ = (#[.int .i64 x1, .int .i64 y1, .int .i64 z1] : Array Value)[o]? := blk_later (by simp) hb3 (fun o => by rw [World.cell?_alloc_new])
      clear hp
      go_region_held3 (fun w' => (∀ o, w'.cell? ⟨w.heap.size, o, none⟩ = (C12 x0 y0 z0 x1 y1 z1 x2 y2 z2 x3 y3 z3)[o]?) ∧ (∀ o, w'.cell? ⟨wr.heap.size, o, none⟩ = (#[.int .i64 x1, .int .i64 y1, .int .i64 z1] : Array Value)[o]?)) (((first | (go_split_ands; skip) | skip); (repeat' apply And.intro) <;> (first | assumption | (with_reducible exact blk_drew (by assumption)) | (with_reducible exact blk_later (by simp) (by assumption) (by assumption)) | (with_reducible exact blk_alloc (by simp) _ (by assumption)))))
        (first
          | (go_at_call 27; ((with_reducible refine (S1.out _).mono ?_); rintro e w5 ⟨rfl, hb5⟩))
          | (go_at_call 40; ((with_reducible refine (Y1.out _).mono ?_); rintro e w6 ⟨rfl, hb6⟩)))
      all_goals
        go_wp2
        go_roundg 2
        case measure => omega
        case rel =>
          have HB' := HB.out
          have hq : ∀ o, w6.cell? ⟨w.heap.size, o, none⟩ = (C12 x0 y0 z0 x1 y1 z1 x2 y2 z2 x3 y3 z3)[o]? := by
            go_split_ands
            first | assumption | (exact blk_later (by simp) hb6 (by assumption)) | (exact blk_later (by simp) hb6 (blk_later (by simp) hb5 hp3))
          exact ⟨.inr (.inr (.inl ⟨rfl, by simp, by simp, by omega⟩)), hq, World.block_lt_of_cell? _ _ (hq 0), by (repeat' (first | (with_reducible exact Below.refl _ _) | (with_reducible refine bstep (by with_reducible assumption) ?_) | (with_reducible refine Below.alloc ?_ ?_ _) | (with_reducible refine Below.drew ?_) | (with_reducible refine below_drewN ?_ _) | (with_reducible refine Below.setCell ?_ ?_ _) | go_size))⟩
    · go_wp2_with (go_at_call 17; ((with_reducible refine (W2.out _).mono ?_); rintro e w3 ⟨rfl, hb3⟩))
      have hp3 := blk_later (by simp) hb3 (blk_alloc (by simp) (.cells (#[.int .i64 x2, .int .i64 y2, .int .i64 z2] : Array Value) 23) hp)
      have hv3 : ∀ o, w3.cell? ⟨wr.heap.size, o, none⟩ = (#[.int .i64 x2, .int .i64 y2, .int .i64 z2] : Array Value)[o]? := blk_later (by simp) hb3 (fun o => by rw [World.cell?_alloc_new])
      clear hp
      go_region_held3 (fun w' => (∀ o, w'.cell? ⟨w.heap.size, o, none⟩ = (C12 x0 y0 z0 x1 y1 z1 x2 y2 z2 x3 y3 z3)[o]?) ∧ (∀ o, w'.cell? ⟨wr.heap.size, o, none⟩ = (#[.int .i64 x2, .int .i64 y2, .int .i64 z2] : Array Value)[o]?)) (((first | (go_split_ands; skip) | skip); (repeat' apply And.intro) <;> (first | assumption | (with_reducible exact blk_drew (by assumption)) | (with_reducible exact blk_later (by simp) (by assumption) (by assumption)) | (with_reducible exact blk_alloc (by simp) _ (by assumption)))))
        (first
          | (go_at_call 27; ((with_reducible refine (S2.out _).mono ?_); rintro e w5 ⟨rfl, hb5⟩))
          | (go_at_call 40; ((with_reducible refine (Y2.out _).mono ?_); rintro e w6 ⟨rfl, hb6⟩)))
      all_goals
        go_wp2
        go_roundg 1
        case measure => omega
        case rel =>
          have HB' := HB.out
          have hq : ∀ o, w6.cell? ⟨w.heap.size, o, none⟩ = (C12 x0 y0 z0 x1 y1 z1 x2 y2 z2 x3 y3 z3)[o]? := by
            go_split_ands
            first | assumption | (exact blk_later (by simp) hb6 (by assumption)) | (exact blk_later (by simp) hb6 (blk_later (by simp) hb5 hp3))
          exact ⟨.inr (.inr (.inr (.inl ⟨rfl, by simp, by simp, by omega⟩))), hq, World.block_lt_of_cell? _ _ (hq 0), by (repeat' (first | (with_reducible exact Below.refl _ _) | (with_reducible refine bstep (by with_reducible assumption) ?_) | (with_reducible refine Below.alloc ?_ ?_ _) | (with_reducible refine Below.drew ?_) | (with_reducible refine below_drewN ?_ _) | (with_reducible refine Below.setCell ?_ ?_ _) | go_size))⟩
    · go_wp2_with (go_at_call 17; ((with_reducible refine (W3.out _).mono ?_); rintro e w3 ⟨rfl, hb3⟩))
      have hp3 := blk_later (by simp) hb3 (blk_alloc (by simp) (.cells (#[.int .i64 x3, .int .i64 y3, .int .i64 z3] : Array Value) 23) hp)
      have hv3 : ∀ o, w3.cell? ⟨wr.heap.size, o, none⟩ = (#[.int .i64 x3, .int .i64 y3, .int .i64 z3] : Array Value)[o]? := blk_later (by simp) hb3 (fun o => by rw [World.cell?_alloc_new])
      clear hp
      go_region_held3 (fun w' => (∀ o, w'.cell? ⟨w.heap.size, o, none⟩ = (C12 x0 y0 z0 x1 y1 z1 x2 y2 z2 x3 y3 z3)[o]?) ∧ (∀ o, w'.cell? ⟨wr.heap.size, o, none⟩ = (#[.int .i64 x3, .int .i64 y3, .int .i64 z3] : Array Value)[o]?)) (((first | (go_split_ands; skip) | skip); (repeat' apply And.intro) <;> (first | assumption | (with_reducible exact blk_drew (by assumption)) | (with_reducible exact blk_later (by simp) (by assumption) (by assumption)) | (with_reducible exact blk_alloc (by simp) _ (by assumption)))))
        (first
          | (go_at_call 27; ((with_reducible refine (S3.out _).mono ?_); rintro e w5 ⟨rfl, hb5⟩))
          | (go_at_call 40; ((with_reducible refine (Y3.out _).mono ?_); rintro e w6 ⟨rfl, hb6⟩)))
      all_goals
        go_wp2
        go_roundg 0
        case measure => omega
        case rel =>
          have HB' := HB.out
          have hq : ∀ o, w6.cell? ⟨w.heap.size, o, none⟩ = (C12 x0 y0 z0 x1 y1 z1 x2 y2 z2 x3 y3 z3)[o]? := by
            go_split_ands
            first | assumption | (exact blk_later (by simp) hb6 (by assumption)) | (exact blk_later (by simp) hb6 (blk_later (by simp) hb5 hp3))
          exact ⟨.inr (.inr (.inr (.inr (⟨rfl, by simp, by simp, by omega⟩)))), hq, World.block_lt_of_cell? _ _ (hq 0), by (repeat' (first | (with_reducible exact Below.refl _ _) | (with_reducible refine bstep (by with_reducible assumption) ?_) | (with_reducible refine Below.alloc ?_ ?_ _) | (with_reducible refine Below.drew ?_) | (with_reducible refine below_drewN ?_ _) | (with_reducible refine Below.setCell ?_ ?_ _) | go_size))⟩
    · go_wp2
      have HB' := HB.out
      go_returns
      exact ⟨by simp, by (repeat' (first | (with_reducible exact Below.refl _ _) | (with_reducible refine bstep (by with_reducible assumption) ?_) | (with_reducible refine Below.alloc ?_ ?_ _) | (with_reducible refine Below.drew ?_) | (with_reducible refine below_drewN ?_ _) | (with_reducible refine Below.setCell ?_ ?_ _) | go_size))⟩
set_option maxHeartbeats 2000000 in
theorem len_0 (x0 y0 z0 x1 y1 z1 x2 y2 z2 x3 y3 z3 : Int) (w : World) (h0 : inB x0 y0 z0 65536 = false) :
    Calls Try.prog 16 #[.agg (C12 x0 y0 z0 x1 y1 z1 x2 y2 z2 x3 y3 z3)] w fun e w' => e = .returned (.tuple #[.int .i64 0, .bool false]) ∧ Below w.heap.size w w' := by
  have i0 : ∀ w : World, (Instr.index 24 (.agg (C12 x0 y0 z0 x1 y1 z1 x2 y2 z2 x3 y3 z3)) (.int .i64 0)).run Try.prog w = .ok (V3 x0 y0 z0) w := fun _ => by kernel_rfl
  have W0 : Hid (∀ w, Calls Try.prog 17 #[V3 x0 y0 z0, .int .i64 65536] w fun e w' => e = .returned (.bool false) ∧ Below w.heap.size w w') := by
    intro w; have := within_any x0 y0 z0 65536 w; rw [h0] at this; exact this
  clear h0  
  have m0 : mx (-1) 0 = 0 := by decide
  have m1 : mx 0 0 = 0 := by decide
  have m2 : mx 1 0 = 1 := by decide
  have m3 : mx 2 0 = 2 := by decide
  have n0 : IntKind.i64.wrap (-1) = -1 := by decide
  have n1 : IntKind.i64.wrap 0 = 0 := by decide
  have n2 : IntKind.i64.wrap 1 = 1 := by decide
  have n3 : IntKind.i64.wrap 2 = 2 := by decide
  go_enter Try.func16, Try.ntmps16
  go_wp2
  go_loopg [4, 8] 4 (fun k n i wr => LenRel 0 w.heap.size (C12 x0 y0 z0 x1 y1 z1 x2 y2 z2 x3 y3 z3) 0 0 0 0 0 w k n i wr)
  case atStart => exact ⟨.inl ⟨rfl, rfl, rfl, by omega⟩, fun o => by rw [World.cell?_alloc_new], by simp, (Below.refl _ _).alloc (Nat.le_refl _) _⟩
  case round =>
    obtain ⟨hk, hp, hlt, hB⟩ := hrel
    have HB := Lib.hid hB
    clear hB
    rcases hk with ⟨rfl, rfl, rfl, hg⟩ | ⟨rfl, rfl, rfl, hg⟩ | ⟨rfl, rfl, rfl, hg⟩ | ⟨rfl, rfl, rfl, hg⟩ | ⟨rfl, rfl, rfl, hg⟩
    · go_wp2_with (go_at_call 17; ((with_reducible refine (W0.out _).mono ?_); rintro e w3 ⟨rfl, hb3⟩))
      have HB' := HB.out
      go_returns
      exact ⟨by simp, by (repeat' (first | (with_reducible exact Below.refl _ _) | (with_reducible refine bstep (by with_reducible assumption) ?_) | (with_reducible refine Below.alloc ?_ ?_ _) | (with_reducible refine Below.drew ?_) | (with_reducible refine below_drewN ?_ _) | (with_reducible refine Below.setCell ?_ ?_ _) | go_size))⟩
    · exact absurd hg (by omega)
    · exact absurd hg (by omega)
    · exact absurd hg (by omega)
    · exact absurd hg (by omega)
set_option maxHeartbeats 2000000 in
theorem len_1 (x0 y0 z0 x1 y1 z1 x2 y2 z2 x3 y3 z3 : Int) (w : World) (h0 : inB x0 y0 z0 65536 = true) (h1 : inB x1 y1 z1 65536 = false) :
    Calls Try.prog 16 #[.agg (C12 x0 y0 z0 x1 y1 z1 x2 y2 z2 x3 y3 z3)] w fun e w' => e = .returned (.tuple #[.int .i64 0, .bool false]) ∧ Below w.heap.size w w' := by
  have i0 : ∀ w : World, (Instr.index 24 (.agg (C12 x0 y0 z0 x1 y1 z1 x2 y2 z2 x3 y3 z3)) (.int .i64 0)).run Try.prog w = .ok (V3 x0 y0 z0) w := fun _ => by kernel_rfl
  have i1 : ∀ w : World, (Instr.index 24 (.agg (C12 x0 y0 z0 x1 y1 z1 x2 y2 z2 x3 y3 z3)) (.int .i64 1)).run Try.prog w = .ok (V3 x1 y1 z1) w := fun _ => by kernel_rfl
  have W0 : Hid (∀ w, Calls Try.prog 17 #[V3 x0 y0 z0, .int .i64 65536] w fun e w' => e = .returned (.bool true) ∧ Below w.heap.size w w') := by
    intro w; have := within_any x0 y0 z0 65536 w; rw [h0] at this; exact this
  have W1 : Hid (∀ w, Calls Try.prog 17 #[V3 x1 y1 z1, .int .i64 65536] w fun e w' => e = .returned (.bool false) ∧ Below w.heap.size w w') := by
    intro w; have := within_any x1 y1 z1 65536 w; rw [h1] at this; exact this
  rw [inB_iff (by omega) (by omega)] at h0
  have S0 : Hid (∀ w, Calls Try.prog 27 #[V3 x0 y0 z0, V3 x0 y0 z0] w fun e w' => e = .returned (V3 0 0 0) ∧ Below w.heap.size w w') := sub_in _ _ _ _ _ _ _ _ _ (by omega) (by omega) (by omega) (by omega) (by omega) (by omega)
  have Y0 : Hid (∀ w, Calls Try.prog 40 #[V3 0 0 0] w fun e w' => e = .returned (.int .i64 0) ∧ Below w.heap.size w w') := way_any 0 0 0 (by omega) (by omega) (by omega)
  clear h0 h1  
  have m0 : mx (-1) 0 = 0 := by decide
  have m1 : mx 0 0 = 0 := by decide
  have m2 : mx 1 0 = 1 := by decide
  have m3 : mx 2 0 = 2 := by decide
  have n0 : IntKind.i64.wrap (-1) = -1 := by decide
  have n1 : IntKind.i64.wrap 0 = 0 := by decide
  have n2 : IntKind.i64.wrap 1 = 1 := by decide
  have n3 : IntKind.i64.wrap 2 = 2 := by decide
  go_enter Try.func16, Try.ntmps16
  go_wp2
  go_loopg [4, 8] 4 (fun k n i wr => LenRel 1 w.heap.size (C12 x0 y0 z0 x1 y1 z1 x2 y2 z2 x3 y3 z3) 0 0 0 0 0 w k n i wr)
  case atStart => exact ⟨.inl ⟨rfl, rfl, rfl, by omega⟩, fun o => by rw [World.cell?_alloc_new], by simp, (Below.refl _ _).alloc (Nat.le_refl _) _⟩
  case round =>
    obtain ⟨hk, hp, hlt, hB⟩ := hrel
    have HB := Lib.hid hB
    clear hB
    rcases hk with ⟨rfl, rfl, rfl, hg⟩ | ⟨rfl, rfl, rfl, hg⟩ | ⟨rfl, rfl, rfl, hg⟩ | ⟨rfl, rfl, rfl, hg⟩ | ⟨rfl, rfl, rfl, hg⟩
    · go_wp2_with (go_at_call 17; ((with_reducible refine (W0.out _).mono ?_); rintro e w3 ⟨rfl, hb3⟩))
      have hp3 := blk_later (by simp) hb3 (blk_alloc (by simp) (.cells (#[.int .i64 x0, .int .i64 y0, .int .i64 z0] : Array Value) 23) hp)
      have hv3 : ∀ o, w3.cell? ⟨wr.heap.size, o, none⟩ = (#[.int .i64 x0, .int .i64 y0, .int .i64 z0] : Array Value)[o]? := blk_later (by simp) hb3 (fun o => by rw [World.cell?_alloc_new])
      clear hp
      go_region_held3 (fun w' => (∀ o, w'.cell? ⟨w.heap.size, o, none⟩ = (C12 x0 y0 z0 x1 y1 z1 x2 y2 z2 x3 y3 z3)[o]?) ∧ (∀ o, w'.cell? ⟨wr.heap.size, o, none⟩ = (#[.int .i64 x0, .int .i64 y0, .int .i64 z0] : Array Value)[o]?)) (((first | (go_split_ands; skip) | skip); (repeat' apply And.intro) <;> (first | assumption | (with_reducible exact blk_drew (by assumption)) | (with_reducible exact blk_later (by simp) (by assumption) (by assumption)) | (with_reducible exact blk_alloc (by simp) _ (by assumption)))))
        (first
          | (go_at_call 27; ((with_reducible refine (S0.out _).mono ?_); rintro e w5 ⟨rfl, hb5⟩))
          | (go_at_call 40; ((with_reducible refine (Y0.out _).mono ?_); rintro e w6 ⟨rfl, hb6⟩)))
      all_goals
        go_wp2
        go_roundg 3
        case measure => omega
        case rel =>
          have HB' := HB.out
          have hq : ∀ o, w6.cell? ⟨w.heap.size, o, none⟩ = (C12 x0 y0 z0 x1 y1 z1 x2 y2 z2 x3 y3 z3)[o]? := by
            go_split_ands
            first | assumption | (exact blk_later (by simp) hb6 (by assumption)) | (exact blk_later (by simp) hb6 (blk_later (by simp) hb5 hp3))
          exact ⟨.inr (.inl ⟨rfl, by simp, by simp, by omega⟩), hq, World.block_lt_of_cell? _ _ (hq 0), by (repeat' (first | (with_reducible exact Below.refl _ _) | (with_reducible refine bstep (by with_reducible assumption) ?_) | (with_reducible refine Below.alloc ?_ ?_ _) | (with_reducible refine Below.drew ?_) | (with_reducible refine below_drewN ?_ _) | (with_reducible refine Below.setCell ?_ ?_ _) | go_size))⟩
    · go_wp2_with (go_at_call 17; ((with_reducible refine (W1.out _).mono ?_); rintro e w3 ⟨rfl, hb3⟩))
      have HB' := HB.out
      go_returns
      exact ⟨by simp, by (repeat' (first | (with_reducible exact Below.refl _ _) | (with_reducible refine bstep (by with_reducible assumption) ?_) | (with_reducible refine Below.alloc ?_ ?_ _) | (with_reducible refine Below.drew ?_) | (with_reducible refine below_drewN ?_ _) | (with_reducible refine Below.setCell ?_ ?_ _) | go_size))⟩
    · exact absurd hg (by omega)
    · exact absurd hg (by omega)
    · exact absurd hg (by omega)
set_option maxHeartbeats 2000000 in
theorem len_2 (x0 y0 z0 x1 y1 z1 x2 y2 z2 x3 y3 z3 : Int) (w : World) (h0 : inB x0 y0 z0 65536 = true) (h1 : inB x1 y1 z1 65536 = true) (h2 : inB x2 y2 z2 65536 = false) :
    Calls Try.prog 16 #[.agg (C12 x0 y0 z0 x1 y1 z1 x2 y2 z2 x3 y3 z3)] w fun e w' => e = .returned (.tuple #[.int .i64 0, .bool false]) ∧ Below w.heap.size w w' := by
  have i0 : ∀ w : World, (Instr.index 24 (.agg (C12 x0 y0 z0 x1 y1 z1 x2 y2 z2 x3 y3 z3)) (.int .i64 0)).run Try.prog w = .ok (V3 x0 y0 z0) w := fun _ => by kernel_rfl
  have i1 : ∀ w : World, (Instr.index 24 (.agg (C12 x0 y0 z0 x1 y1 z1 x2 y2 z2 x3 y3 z3)) (.int .i64 1)).run Try.prog w = .ok (V3 x1 y1 z1) w := fun _ => by kernel_rfl
  have i2 : ∀ w : World, (Instr.index 24 (.agg (C12 x0 y0 z0 x1 y1 z1 x2 y2 z2 x3 y3 z3)) (.int .i64 2)).run Try.prog w = .ok (V3 x2 y2 z2) w := fun _ => by kernel_rfl
  have W0 : Hid (∀ w, Calls Try.prog 17 #[V3 x0 y0 z0, .int .i64 65536] w fun e w' => e = .returned (.bool true) ∧ Below w.heap.size w w') := by
    intro w; have := within_any x0 y0 z0 65536 w; rw [h0] at this; exact this
  have W1 : Hid (∀ w, Calls Try.prog 17 #[V3 x1 y1 z1, .int .i64 65536] w fun e w' => e = .returned (.bool true) ∧ Below w.heap.size w w') := by
    intro w; have := within_any x1 y1 z1 65536 w; rw [h1] at this; exact this
  have W2 : Hid (∀ w, Calls Try.prog 17 #[V3 x2 y2 z2, .int .i64 65536] w fun e w' => e = .returned (.bool false) ∧ Below w.heap.size w w') := by
    intro w; have := within_any x2 y2 z2 65536 w; rw [h2] at this; exact this
  rw [inB_iff (by omega) (by omega)] at h0
  rw [inB_iff (by omega) (by omega)] at h1
  have S0 : Hid (∀ w, Calls Try.prog 27 #[V3 x0 y0 z0, V3 x0 y0 z0] w fun e w' => e = .returned (V3 0 0 0) ∧ Below w.heap.size w w') := sub_in _ _ _ _ _ _ _ _ _ (by omega) (by omega) (by omega) (by omega) (by omega) (by omega)
  have Y0 : Hid (∀ w, Calls Try.prog 40 #[V3 0 0 0] w fun e w' => e = .returned (.int .i64 0) ∧ Below w.heap.size w w') := way_any 0 0 0 (by omega) (by omega) (by omega)
  obtain ⟨dx1, ex1⟩ : ∃ d, x1 - x0 = d := ⟨_, rfl⟩
  obtain ⟨dy1, ey1⟩ : ∃ d, y1 - y0 = d := ⟨_, rfl⟩
  obtain ⟨dz1, ez1⟩ : ∃ d, z1 - z0 = d := ⟨_, rfl⟩
  have ⟨l1, u1⟩ := wayF_le dx1 dy1 dz1 (by omega) (by omega) (by omega)
  have S1 : Hid (∀ w, Calls Try.prog 27 #[V3 x1 y1 z1, V3 x0 y0 z0] w fun e w' => e = .returned (V3 dx1 dy1 dz1) ∧ Below w.heap.size w w') := sub_in _ _ _ _ _ _ _ _ _ ex1 ey1 ez1 (by omega) (by omega) (by omega)
  have Y1 : Hid (∀ w, Calls Try.prog 40 #[V3 dx1 dy1 dz1] w fun e w' => e = .returned (.int .i64 (wayF dx1 dy1 dz1)) ∧ Below w.heap.size w w') := way_any dx1 dy1 dz1 (by omega) (by omega) (by omega)
  obtain ⟨a1, ea1⟩ : ∃ a, wayF dx1 dy1 dz1 = a := ⟨_, rfl⟩
  rw [ea1] at l1 u1 Y1
  clear h0 h1 h2 ex1 ey1 ez1 ea1
  have m0 : mx (-1) 0 = 0 := by decide
  have m1 : mx 0 0 = 0 := by decide
  have m2 : mx 1 0 = 1 := by decide
  have m3 : mx 2 0 = 2 := by decide
  have n0 : IntKind.i64.wrap (-1) = -1 := by decide
  have n1 : IntKind.i64.wrap 0 = 0 := by decide
  have n2 : IntKind.i64.wrap 1 = 1 := by decide
  have n3 : IntKind.i64.wrap 2 = 2 := by decide
  have n4 : IntKind.i64.wrap a1 = a1 := IntWalk.i64_in _ (by omega)
  go_enter Try.func16, Try.ntmps16
  go_wp2
  go_loopg [4, 8] 4 (fun k n i wr => LenRel 2 w.heap.size (C12 x0 y0 z0 x1 y1 z1 x2 y2 z2 x3 y3 z3) 0 0 a1 0 0 w k n i wr)
  case atStart => exact ⟨.inl ⟨rfl, rfl, rfl, by omega⟩, fun o => by rw [World.cell?_alloc_new], by simp, (Below.refl _ _).alloc (Nat.le_refl _) _⟩
  case round =>
    obtain ⟨hk, hp, hlt, hB⟩ := hrel
    have HB := Lib.hid hB
    clear hB
    rcases hk with ⟨rfl, rfl, rfl, hg⟩ | ⟨rfl, rfl, rfl, hg⟩ | ⟨rfl, rfl, rfl, hg⟩ | ⟨rfl, rfl, rfl, hg⟩ | ⟨rfl, rfl, rfl, hg⟩
    · go_wp2_with (go_at_call 17; ((with_reducible refine (W0.out _).mono ?_); rintro e w3 ⟨rfl, hb3⟩))
      have hp3 := blk_later (by simp) hb3 (blk_alloc (by simp) (.cells (#[.int .i64 x0, .int .i64 y0, .int .i64 z0] : Array Value) 23) hp)
      have hv3 : ∀ o, w3.cell? ⟨wr.heap.size, o, none⟩ = (#[.int .i64 x0, .int .i64 y0, .int .i64 z0] : Array Value)[o]? := blk_later (by simp) hb3 (fun o => by rw [World.cell?_alloc_new])
      clear hp
      go_region_held3 (fun w' => (∀ o, w'.cell? ⟨w.heap.size, o, none⟩ = (C12 x0 y0 z0 x1 y1 z1 x2 y2 z2 x3 y3 z3)[o]?) ∧ (∀ o, w'.cell? ⟨wr.heap.size, o, none⟩ = (#[.int .i64 x0, .int .i64 y0, .int .i64 z0] : Array Value)[o]?)) (((first | (go_split_ands; skip) | skip); (repeat' apply And.intro) <;> (first | assumption | (with_reducible exact blk_drew (by assumption)) | (with_reducible exact blk_later (by simp) (by assumption) (by assumption)) | (with_reducible exact blk_alloc (by simp) _ (by assumption)))))
        (first
          | (go_at_call 27; ((with_reducible refine (S0.out _).mono ?_); rintro e w5 ⟨rfl, hb5⟩))
          | (go_at_call 40; ((with_reducible refine (Y0.out _).mono ?_); rintro e w6 ⟨rfl, hb6⟩)))
      all_goals
        go_wp2
        go_roundg 3
        case measure => omega
        case rel =>
          have HB' := HB.out
          have hq : ∀ o, w6.cell? ⟨w.heap.size, o, none⟩ = (C12 x0 y0 z0 x1 y1 z1 x2 y2 z2 x3 y3 z3)[o]? := by
            go_split_ands
            first | assumption | (exact blk_later (by simp) hb6 (by assumption)) | (exact blk_later (by simp) hb6 (blk_later (by simp) hb5 hp3))
          exact ⟨.inr (.inl ⟨rfl, by simp, by simp, by omega⟩), hq, World.block_lt_of_cell? _ _ (hq 0), by (repeat' (first | (with_reducible exact Below.refl _ _) | (with_reducible refine bstep (by with_reducible assumption) ?_) | (with_reducible refine Below.alloc ?_ ?_ _) | (with_reducible refine Below.drew ?_) | (with_reducible refine below_drewN ?_ _) | (with_reducible refine Below.setCell ?_ ?_ _) | go_size))⟩
    · go_wp2_with (go_at_call 17; ((with_reducible refine (W1.out _).mono ?_); rintro e w3 ⟨rfl, hb3⟩))
      have hp3 := blk_later (by simp) hb3 (blk_alloc (by simp) (.cells (#[.int .i64 x1, .int .i64 y1, .int .i64 z1] : Array Value) 23) hp)
      have hv3 : ∀ o, w3.cell? ⟨wr.heap.size, o, none⟩ = (#[.int .i64 x1, .int .i64 y1, .int .i64 z1] : Array Value)[o]? := blk_later (by simp) hb3 (fun o => by rw [World.cell?_alloc_new])
      clear hp
      go_region_held3 (fun w' => (∀ o, w'.cell? ⟨w.heap.size, o, none⟩ = (C12 x0 y0 z0 x1 y1 z1 x2 y2 z2 x3 y3 z3)[o]?) ∧ (∀ o, w'.cell? ⟨wr.heap.size, o, none⟩ = (#[.int .i64 x1, .int .i64 y1, .int .i64 z1] : Array Value)[o]?)) (((first | (go_split_ands; skip) | skip); (repeat' apply And.intro) <;> (first | assumption | (with_reducible exact blk_drew (by assumption)) | (with_reducible exact blk_later (by simp) (by assumption) (by assumption)) | (with_reducible exact blk_alloc (by simp) _ (by assumption)))))
        (first
          | (go_at_call 27; ((with_reducible refine (S1.out _).mono ?_); rintro e w5 ⟨rfl, hb5⟩))
          | (go_at_call 40; ((with_reducible refine (Y1.out _).mono ?_); rintro e w6 ⟨rfl, hb6⟩)))
      all_goals
        go_wp2
        go_roundg 2
        case measure => omega
        case rel =>
          have HB' := HB.out
          have hq : ∀ o, w6.cell? ⟨w.heap.size, o, none⟩ = (C12 x0 y0 z0 x1 y1 z1 x2 y2 z2 x3 y3 z3)[o]? := by
            go_split_ands
            first | assumption | (exact blk_later (by simp) hb6 (by assumption)) | (exact blk_later (by simp) hb6 (blk_later (by simp) hb5 hp3))
          exact ⟨.inr (.inr (.inl ⟨rfl, by simp, by simp, by omega⟩)), hq, World.block_lt_of_cell? _ _ (hq 0), by (repeat' (first | (with_reducible exact Below.refl _ _) | (with_reducible refine bstep (by with_reducible assumption) ?_) | (with_reducible refine Below.alloc ?_ ?_ _) | (with_reducible refine Below.drew ?_) | (with_reducible refine below_drewN ?_ _) | (with_reducible refine Below.setCell ?_ ?_ _) | go_size))⟩
    · go_wp2_with (go_at_call 17; ((with_reducible refine (W2.out _).mono ?_); rintro e w3 ⟨rfl, hb3⟩))
      have HB' := HB.out
      go_returns
      exact ⟨by simp, by (repeat' (first | (with_reducible exact Below.refl _ _) | (with_reducible refine bstep (by with_reducible assumption) ?_) | (with_reducible refine Below.alloc ?_ ?_ _) | (with_reducible refine Below.drew ?_) | (with_reducible refine below_drewN ?_ _) | (with_reducible refine Below.setCell ?_ ?_ _) | go_size))⟩
    · exact absurd hg (by omega)
    · exact absurd hg (by omega)
set_option maxHeartbeats 2000000 in
theorem len_3 (x0 y0 z0 x1 y1 z1 x2 y2 z2 x3 y3 z3 : Int) (w : World) (h0 : inB x0 y0 z0 65536 = true) (h1 : inB x1 y1 z1 65536 = true) (h2 : inB x2 y2 z2 65536 = true) (h3 : inB x3 y3 z3 65536 = false) :
    Calls Try.prog 16 #[.agg (C12 x0 y0 z0 x1 y1 z1 x2 y2 z2 x3 y3 z3)] w fun e w' => e = .returned (.tuple #[.int .i64 0, .bool false]) ∧ Below w.heap.size w w' := by
  have i0 : ∀ w : World, (Instr.index 24 (.agg (C12 x0 y0 z0 x1 y1 z1 x2 y2 z2 x3 y3 z3)) (.int .i64 0)).run Try.prog w = .ok (V3 x0 y0 z0) w := fun _ => by kernel_rfl
  have i1 : ∀ w : World, (Instr.index 24 (.agg (C12 x0 y0 z0 x1 y1 z1 x2 y2 z2 x3 y3 z3)) (.int .i64 1)).run Try.prog w = .ok (V3 x1 y1 z1) w := fun _ => by kernel_rfl
  have i2 : ∀ w : World, (Instr.index 24 (.agg (C12 x0 y0 z0 x1 y1 z1 x2 y2 z2 x3 y3 z3)) (.int .i64 2)).run Try.prog w = .ok (V3 x2 y2 z2) w := fun _ => by kernel_rfl
  have i3 : ∀ w : World, (Instr.index 24 (.agg (C12 x0 y0 z0 x1 y1 z1 x2 y2 z2 x3 y3 z3)) (.int .i64 3)).run Try.prog w = .ok (V3 x3 y3 z3) w := fun _ => by kernel_rfl
  have W0 : Hid (∀ w, Calls Try.prog 17 #[V3 x0 y0 z0, .int .i64 65536] w fun e w' => e = .returned (.bool true) ∧ Below w.heap.size w w') := by
    intro w; have := within_any x0 y0 z0 65536 w; rw [h0] at this; exact this
  have W1 : Hid (∀ w, Calls Try.prog 17 #[V3 x1 y1 z1, .int .i64 65536] w fun e w' => e = .returned (.bool true) ∧ Below w.heap.size w w') := by
    intro w; have := within_any x1 y1 z1 65536 w; rw [h1] at this; exact this
  have W2 : Hid (∀ w, Calls Try.prog 17 #[V3 x2 y2 z2, .int .i64 65536] w fun e w' => e = .returned (.bool true) ∧ Below w.heap.size w w') := by
    intro w; have := within_any x2 y2 z2 65536 w; rw [h2] at this; exact this
  have W3 : Hid (∀ w, Calls Try.prog 17 #[V3 x3 y3 z3, .int .i64 65536] w fun e w' => e = .returned (.bool false) ∧ Below w.heap.size w w') := by
    intro w; have := within_any x3 y3 z3 65536 w; rw [h3] at this; exact this
  rw [inB_iff (by omega) (by omega)] at h0
  rw [inB_iff (by omega) (by omega)] at h1
  rw [inB_iff (by omega) (by omega)] at h2
  have S0 : Hid (∀ w, Calls Try.prog 27 #[V3 x0 y0 z0, V3 x0 y0 z0] w fun e w' => e = .returned (V3 0 0 0) ∧ Below w.heap.size w w') := sub_in _ _ _ _ _ _ _ _ _ (by omega) (by omega) (by omega) (by omega) (by omega) (by omega)
  have Y0 : Hid (∀ w, Calls Try.prog 40 #[V3 0 0 0] w fun e w' => e = .returned (.int .i64 0) ∧ Below w.heap.size w w') := way_any 0 0 0 (by omega) (by omega) (by omega)
  obtain ⟨dx1, ex1⟩ : ∃ d, x1 - x0 = d := ⟨_, rfl⟩
  obtain ⟨dy1, ey1⟩ : ∃ d, y1 - y0 = d := ⟨_, rfl⟩
  obtain ⟨dz1, ez1⟩ : ∃ d, z1 - z0 = d := ⟨_, rfl⟩
  have ⟨l1, u1⟩ := wayF_le dx1 dy1 dz1 (by omega) (by omega) (by omega)
  have S1 : Hid (∀ w, Calls Try.prog 27 #[V3 x1 y1 z1, V3 x0 y0 z0] w fun e w' => e = .returned (V3 dx1 dy1 dz1) ∧ Below w.heap.size w w') := sub_in _ _ _ _ _ _ _ _ _ ex1 ey1 ez1 (by omega) (by omega) (by omega)
  have Y1 : Hid (∀ w, Calls Try.prog 40 #[V3 dx1 dy1 dz1] w fun e w' => e = .returned (.int .i64 (wayF dx1 dy1 dz1)) ∧ Below w.heap.size w w') := way_any dx1 dy1 dz1 (by omega) (by omega) (by omega)
  obtain ⟨dx2, ex2⟩ : ∃ d, x2 - x1 = d := ⟨_, rfl⟩
  obtain ⟨dy2, ey2⟩ : ∃ d, y2 - y1 = d := ⟨_, rfl⟩
  obtain ⟨dz2, ez2⟩ : ∃ d, z2 - z1 = d := ⟨_, rfl⟩
  have ⟨l2, u2⟩ := wayF_le dx2 dy2 dz2 (by omega) (by omega) (by omega)
  have S2 : Hid (∀ w, Calls Try.prog 27 #[V3 x2 y2 z2, V3 x1 y1 z1] w fun e w' => e = .returned (V3 dx2 dy2 dz2) ∧ Below w.heap.size w w') := sub_in _ _ _ _ _ _ _ _ _ ex2 ey2 ez2 (by omega) (by omega) (by omega)
  have Y2 : Hid (∀ w, Calls Try.prog 40 #[V3 dx2 dy2 dz2] w fun e w' => e = .returned (.int .i64 (wayF dx2 dy2 dz2)) ∧ Below w.heap.size w w') := way_any dx2 dy2 dz2 (by omega) (by omega) (by omega)
  obtain ⟨a1, ea1⟩ : ∃ a, wayF dx1 dy1 dz1 = a := ⟨_, rfl⟩
  rw [ea1] at l1 u1 Y1
  obtain ⟨a2, ea2⟩ : ∃ a, wayF dx2 dy2 dz2 = a := ⟨_, rfl⟩
  rw [ea2] at l2 u2 Y2
  clear h0 h1 h2 h3 ex1 ey1 ez1 ex2 ey2 ez2 ea1 ea2
  have m0 : mx (-1) 0 = 0 := by decide
  have m1 : mx 0 0 = 0 := by decide
  have m2 : mx 1 0 = 1 := by decide
  have m3 : mx 2 0 = 2 := by decide
  have n0 : IntKind.i64.wrap (-1) = -1 := by decide
  have n1 : IntKind.i64.wrap 0 = 0 := by decide
  have n2 : IntKind.i64.wrap 1 = 1 := by decide
  have n3 : IntKind.i64.wrap 2 = 2 := by decide
  have n4 : IntKind.i64.wrap a1 = a1 := IntWalk.i64_in _ (by omega)
  have n5 : IntKind.i64.wrap (a1 + a2) = a1 + a2 := IntWalk.i64_in _ (by omega)
  go_enter Try.func16, Try.ntmps16
  go_wp2
  go_loopg [4, 8] 4 (fun k n i wr => LenRel 3 w.heap.size (C12 x0 y0 z0 x1 y1 z1 x2 y2 z2 x3 y3 z3) 0 0 a1 (a1 + a2) 0 w k n i wr)
  case atStart => exact ⟨.inl ⟨rfl, rfl, rfl, by omega⟩, fun o => by rw [World.cell?_alloc_new], by simp, (Below.refl _ _).alloc (Nat.le_refl _) _⟩
  case round =>
    obtain ⟨hk, hp, hlt, hB⟩ := hrel
    have HB := Lib.hid hB
    clear hB
    rcases hk with ⟨rfl, rfl, rfl, hg⟩ | ⟨rfl, rfl, rfl, hg⟩ | ⟨rfl, rfl, rfl, hg⟩ | ⟨rfl, rfl, rfl, hg⟩ | ⟨rfl, rfl, rfl, hg⟩
    · go_wp2_with (go_at_call 17; ((with_reducible refine (W0.out _).mono ?_); rintro e w3 ⟨rfl, hb3⟩))
      have hp3 := blk_later (by simp) hb3 (blk_alloc (by simp) (.cells (#[.int .i64 x0, .int .i64 y0, .int .i64 z0] : Array Value) 23) hp)
      have hv3 : ∀ o, w3.cell? ⟨wr.heap.size, o, none⟩ = (#[.int .i64 x0, .int .i64 y0, .int .i64 z0] : Array Value)[o]? := blk_later (by simp) hb3 (fun o => by rw [World.cell?_alloc_new])
      clear hp
      go_region_held3 (fun w' => (∀ o, w'.cell? ⟨w.heap.size, o, none⟩ = (C12 x0 y0 z0 x1 y1 z1 x2 y2 z2 x3 y3 z3)[o]?) ∧ (∀ o, w'.cell? ⟨wr.heap.size, o, none⟩ = (#[.int .i64 x0, .int .i64 y0, .int .i64 z0] : Array Value)[o]?)) (((first | (go_split_ands; skip) | skip); (repeat' apply And.intro) <;> (first | assumption | (with_reducible exact blk_drew (by assumption)) | (with_reducible exact blk_later (by simp) (by assumption) (by assumption)) | (with_reducible exact blk_alloc (by simp) _ (by assumption)))))
        (first
          | (go_at_call 27; ((with_reducible refine (S0.out _).mono ?_); rintro e w5 ⟨rfl, hb5⟩))
          | (go_at_call 40; ((with_reducible refine (Y0.out _).mono ?_); rintro e w6 ⟨rfl, hb6⟩)))
      all_goals
        go_wp2
        go_roundg 3
        case measure => omega
        case rel =>
          have HB' := HB.out
          have hq : ∀ o, w6.cell? ⟨w.heap.size, o, none⟩ = (C12 x0 y0 z0 x1 y1 z1 x2 y2 z2 x3 y3 z3)[o]? := by
            go_split_ands
            first | assumption | (exact blk_later (by simp) hb6 (by assumption)) | (exact blk_later (by simp) hb6 (blk_later (by simp) hb5 hp3))
          exact ⟨.inr (.inl ⟨rfl, by simp, by simp, by omega⟩), hq, World.block_lt_of_cell? _ _ (hq 0), by (repeat' (first | (with_reducible exact Below.refl _ _) | (with_reducible refine bstep (by with_reducible assumption) ?_) | (with_reducible refine Below.alloc ?_ ?_ _) | (with_reducible refine Below.drew ?_) | (with_reducible refine below_drewN ?_ _) | (with_reducible refine Below.setCell ?_ ?_ _) | go_size))⟩
    · go_wp2_with (go_at_call 17; ((with_reducible refine (W1.out _).mono ?_); rintro e w3 ⟨rfl, hb3⟩))
      have hp3 := blk_later (by simp) hb3 (blk_alloc (by simp) (.cells (#[.int .i64 x1, .int .i64 y1, .int .i64 z1] : Array Value) 23) hp)
      have hv3 : ∀ o, w3.cell? ⟨wr.heap.size, o, none⟩ = (#[.int .i64 x1, .int .i64 y1, .int .i64 z1] : Array Value)[o]? := blk_later (by simp) hb3 (fun o => by rw [World.cell?_alloc_new])
      clear hp
      go_region_held3 (fun w' => (∀ o, w'.cell? ⟨w.heap.size, o, none⟩ = (C12 x0 y0 z0 x1 y1 z1 x2 y2 z2 x3 y3 z3)[o]?) ∧ (∀ o, w'.cell? ⟨wr.heap.size, o, none⟩ = (#[.int .i64 x1, .int .i64 y1, .int .i64 z1] : Array Value)[o]?)) (((first | (go_split_ands; skip) | skip); (repeat' apply And.intro) <;> (first | assumption | (with_reducible exact blk_drew (by assumption)) | (with_reducible exact blk_later (by simp) (by assumption) (by assumption)) | (with_reducible exact blk_alloc (by simp) _ (by assumption)))))
        (first
          | (go_at_call 27; ((with_reducible refine (S1.out _).mono ?_); rintro e w5 ⟨rfl, hb5⟩))
          | (go_at_call 40; ((with_reducible refine (Y1.out _).mono ?_); rintro e w6 ⟨rfl, hb6⟩)))
      all_goals
        go_wp2
        go_roundg 2
        case measure => omega
        case rel =>
          have HB' := HB.out
          have hq : ∀ o, w6.cell? ⟨w.heap.size, o, none⟩ = (C12 x0 y0 z0 x1 y1 z1 x2 y2 z2 x3 y3 z3)[o]? := by
            go_split_ands
            first | assumption | (exact blk_later (by simp) hb6 (by assumption)) | (exact blk_later (by simp) hb6 (blk_later (by simp) hb5 hp3))
          exact ⟨.inr (.inr (.inl ⟨rfl, by simp, by simp, by omega⟩)), hq, World.block_lt_of_cell? _ _ (hq 0), by (repeat' (first | (with_reducible exact Below.refl _ _) | (with_reducible refine bstep (by with_reducible assumption) ?_) | (with_reducible refine Below.alloc ?_ ?_ _) | (with_reducible refine Below.drew ?_) | (with_reducible refine below_drewN ?_ _) | (with_reducible refine Below.setCell ?_ ?_ _) | go_size))⟩
    · go_wp2_with (go_at_call 17; ((with_reducible refine (W2.out _).mono ?_); rintro e w3 ⟨rfl, hb3⟩))
      have hp3 := blk_later (by simp) hb3 (blk_alloc (by simp) (.cells (#[.int .i64 x2, .int .i64 y2, .int .i64 z2] : Array Value) 23) hp)
      have hv3 : ∀ o, w3.cell? ⟨wr.heap.size, o, none⟩ = (#[.int .i64 x2, .int .i64 y2, .int .i64 z2] : Array Value)[o]? := blk_later (by simp) hb3 (fun o => by rw [World.cell?_alloc_new])
      clear hp
      go_region_held3 (fun w' => (∀ o, w'.cell? ⟨w.heap.size, o, none⟩ = (C12 x0 y0 z0 x1 y1 z1 x2 y2 z2 x3 y3 z3)[o]?) ∧ (∀ o, w'.cell? ⟨wr.heap.size, o, none⟩ = (#[.int .i64 x2, .int .i64 y2, .int .i64 z2] : Array Value)[o]?)) (((first | (go_split_ands; skip) | skip); (repeat' apply And.intro) <;> (first | assumption | (with_reducible exact blk_drew (by assumption)) | (with_reducible exact blk_later (by simp) (by assumption) (by assumption)) | (with_reducible exact blk_alloc (by simp) _ (by assumption)))))
        (first
          | (go_at_call 27; ((with_reducible refine (S2.out _).mono ?_); rintro e w5 ⟨rfl, hb5⟩))
          | (go_at_call 40; ((with_reducible refine (Y2.out _).mono ?_); rintro e w6 ⟨rfl, hb6⟩)))
      all_goals
        go_wp2
        go_roundg 1
        case measure => omega
        case rel =>
          have HB' := HB.out
          have hq : ∀ o, w6.cell? ⟨w.heap.size, o, none⟩ = (C12 x0 y0 z0 x1 y1 z1 x2 y2 z2 x3 y3 z3)[o]? := by
            go_split_ands
            first | assumption | (exact blk_later (by simp) hb6 (by assumption)) | (exact blk_later (by simp) hb6 (blk_later (by simp) hb5 hp3))
          exact ⟨.inr (.inr (.inr (.inl ⟨rfl, by simp, by simp, by omega⟩))), hq, World.block_lt_of_cell? _ _ (hq 0), by (repeat' (first | (with_reducible exact Below.refl _ _) | (with_reducible refine bstep (by with_reducible assumption) ?_) | (with_reducible refine Below.alloc ?_ ?_ _) | (with_reducible refine Below.drew ?_) | (with_reducible refine below_drewN ?_ _) | (with_reducible refine Below.setCell ?_ ?_ _) | go_size))⟩
    · go_wp2_with (go_at_call 17; ((with_reducible refine (W3.out _).mono ?_); rintro e w3 ⟨rfl, hb3⟩))
      have HB' := HB.out
      go_returns
      exact ⟨by simp, by (repeat' (first | (with_reducible exact Below.refl _ _) | (with_reducible refine bstep (by with_reducible assumption) ?_) | (with_reducible refine Below.alloc ?_ ?_ _) | (with_reducible refine Below.drew ?_) | (with_reducible refine below_drewN ?_ _) | (with_reducible refine Below.setCell ?_ ?_ _) | go_size))⟩
    · exact absurd hg (by omega)
theorem len_any (x0 y0 z0 x1 y1 z1 x2 y2 z2 x3 y3 z3 : Int) (w : World) :
    Calls Try.prog 16 #[.agg (C12 x0 y0 z0 x1 y1 z1 x2 y2 z2 x3 y3 z3)] w fun e w' => e = .returned (.tuple #[.int .i64 (if allIn x0 y0 z0 x1 y1 z1 x2 y2 z2 x3 y3 z3 = true then lenF x0 y0 z0 x1 y1 z1 x2 y2 z2 x3 y3 z3 else 0), .bool (allIn x0 y0 z0 x1 y1 z1 x2 y2 z2 x3 y3 z3)]) ∧ Below w.heap.size w w' := by
  unfold allIn
  cases h0 : inB x0 y0 z0 65536
  · simpa using len_0 x0 y0 z0 x1 y1 z1 x2 y2 z2 x3 y3 z3 w h0
  cases h1 : inB x1 y1 z1 65536
  · simpa using len_1 x0 y0 z0 x1 y1 z1 x2 y2 z2 x3 y3 z3 w h0 h1
  cases h2 : inB x2 y2 z2 65536
  · simpa using len_2 x0 y0 z0 x1 y1 z1 x2 y2 z2 x3 y3 z3 w h0 h1 h2
  cases h3 : inB x3 y3 z3 65536
  · simpa using len_3 x0 y0 z0 x1 y1 z1 x2 y2 z2 x3 y3 z3 w h0 h1 h2 h3
  · simpa using len_4 x0 y0 z0 x1 y1 z1 x2 y2 z2 x3 y3 z3 w h0 h1 h2 h3
theorem lenF_le (x0 y0 z0 x1 y1 z1 x2 y2 z2 x3 y3 z3 : Int) (h : allIn x0 y0 z0 x1 y1 z1 x2 y2 z2 x3 y3 z3 = true) : 0 ≤ lenF x0 y0 z0 x1 y1 z1 x2 y2 z2 x3 y3 z3 ∧ lenF x0 y0 z0 x1 y1 z1 x2 y2 z2 x3 y3 z3 ≤ 1179648 := by
  simp only [allIn, Bool.and_eq_true] at h
  obtain ⟨⟨⟨h0, h1⟩, h2⟩, h3⟩ := h
  rw [inB_iff (by omega) (by omega)] at h0 h1 h2 h3
  have a := wayF_le (x1 - x0) (y1 - y0) (z1 - z0) (by omega) (by omega) (by omega)
  have b := wayF_le (x2 - x1) (y2 - y1) (z2 - z1) (by omega) (by omega) (by omega)
  have c := wayF_le (x3 - x2) (y3 - y2) (z3 - z2) (by omega) (by omega) (by omega)
  unfold lenF
  omega
/-- How many parts, by the length. -/
def edgeF (ok : Bool) (n unit : Int) : Int := if ok = true then (if unit < 1 then 0 else mn (1 + n / unit) 16) else 0
theorem edge_any (x0 y0 z0 x1 y1 z1 x2 y2 z2 x3 y3 z3 unit : Int) (w : World) :
    Calls Try.prog 15 #[.agg (C12 x0 y0 z0 x1 y1 z1 x2 y2 z2 x3 y3 z3), .int .i64 unit] w fun e w' => e = .returned (.int .i64 (edgeF (allIn x0 y0 z0 x1 y1 z1 x2 y2 z2 x3 y3 z3) (lenF x0 y0 z0 x1 y1 z1 x2 y2 z2 x3 y3 z3) unit)) ∧ Below w.heap.size w w' := by
  have K := Lib.hid (len_any x0 y0 z0 x1 y1 z1 x2 y2 z2 x3 y3 z3)
  have hle := lenF_le x0 y0 z0 x1 y1 z1 x2 y2 z2 x3 y3 z3
  unfold edgeF
  obtain ⟨b, hb⟩ : ∃ b, allIn x0 y0 z0 x1 y1 z1 x2 y2 z2 x3 y3 z3 = b := ⟨_, rfl⟩
  obtain ⟨n, hn⟩ : ∃ n, lenF x0 y0 z0 x1 y1 z1 x2 y2 z2 x3 y3 z3 = n := ⟨_, rfl⟩
  rw [hb, hn] at K hle ⊢
  clear hb hn
  cases b with
  | false =>
    clear hle
    go_enter Try.func15, Try.ntmps15
    go_wp2_with (go_at_call 16; ((with_reducible refine (K.out _).mono ?_); rintro e w3 ⟨rfl, hb3⟩))
    go_returns
    exact ⟨by simp, by (repeat' (first | (with_reducible exact Below.refl _ _) | (with_reducible refine bstep (by with_reducible assumption) ?_) | (with_reducible refine Below.alloc ?_ ?_ _) | (with_reducible refine Below.drew ?_) | (with_reducible refine below_drewN ?_ _) | (with_reducible refine Below.setCell ?_ ?_ _) | go_size))⟩
  | true =>
    obtain ⟨l, u⟩ := hle rfl
    clear hle
    by_cases hu : unit < 1
    · rw [if_pos rfl, if_pos hu]
      have hu' : decide (unit < 1) = true := decide_eq_true hu
      clear hu
      go_enter Try.func15, Try.ntmps15
      go_wp2_with (go_at_call 16; ((with_reducible refine (K.out _).mono ?_); rintro e w3 ⟨rfl, hb3⟩))
      go_returns
      exact ⟨by simp, by (repeat' (first | (with_reducible exact Below.refl _ _) | (with_reducible refine bstep (by with_reducible assumption) ?_) | (with_reducible refine Below.alloc ?_ ?_ _) | (with_reducible refine Below.drew ?_) | (with_reducible refine below_drewN ?_ _) | (with_reducible refine Below.setCell ?_ ?_ _) | go_size))⟩
    · rw [if_pos rfl, if_neg hu]
      have hu' : decide (unit < 1) = false := decide_eq_false hu
      have hu2 : (unit == 0) = false := beq_eq_false_iff_ne.mpr (by omega)
      have hu3 : 1 ≤ unit := by omega
      have q1 : 0 ≤ n / unit := Int.ediv_nonneg l (by omega)
      have q2 : n / unit ≤ 1179648 := Int.le_trans (Int.ediv_le_self unit l) u
      clear hu
      go_enter Try.func15, Try.ntmps15
      go_wp2_with (go_at_call 16; ((with_reducible refine (K.out _).mono ?_); rintro e w3 ⟨rfl, hb3⟩))
      go_returns
      exact ⟨by simp, by (repeat' (first | (with_reducible exact Below.refl _ _) | (with_reducible refine bstep (by with_reducible assumption) ?_) | (with_reducible refine Below.alloc ?_ ?_ _) | (with_reducible refine Below.drew ?_) | (with_reducible refine below_drewN ?_ _) | (with_reducible refine Below.setCell ?_ ?_ _) | go_size))⟩
end Go.Proofs.Ytodgnpggcdjgaaa
