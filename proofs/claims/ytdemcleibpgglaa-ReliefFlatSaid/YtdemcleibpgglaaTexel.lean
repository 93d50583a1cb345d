/- What relief.Texel answers: a contract, for all textures and points of 64 bits. -/
import Derived.Test.YtdemcleibpgglaaStep
namespace Go.Proofs.Ytdemcleibpgglaa
open Go.RowKit
set_option maxRecDepth 100000
set_option linter.unusedSimpArgs false
set_option linter.unusedVariables false
/-- Is there a texel, and which. -/
def texok (tw th : Int) (zs : List Int) (x y z : Int) : Bool := rightB tw th zs && inB x y z 65536
def txi (tw th x y z : Int) : Nat := (stp (y + z) th * tw + stp x tw).toNat
def txv (ok : Bool) (tw th : Int) (zs : List Int) (x y z : Int) : Int := if ok then zs.getD (txi tw th x y z) 0 else 0
set_option maxHeartbeats 2000000 in
theorem texel_is (s v : Value) (tw th : Int) (zs : List Int) (x y z : Int) (ok : Bool) (val : Int) (hok : texok tw th zs x y z = ok) (hval : txv ok tw th zs x y z = val) (w : World) (hv : Ints w v zs) :
    Calls Try.prog 23 #[.agg #[s, .int .i64 tw, .int .i64 th, v], V3 x y z] w fun e w' => e = .returned (.tuple #[.int .i64 val, .bool ok]) ∧ Below w.heap.size w w' := by
  subst hval
  have hlater : ∀ w', Below w.heap.size w w' → Ints w' v zs := by
    intro w' hb
    rcases hv with h | ⟨bl, off, c, h1, h2, h3, h4, h5, h6⟩
    · exact .inl h
    · exact .inr ⟨bl, off, c, h1, h2, h3, h4, by have := hb.size; omega, fun j hj => (hb.cell (p := ⟨bl, off + j, none⟩) h5).trans (h6 j hj)⟩
  cases hr : rightB tw th zs
  · obtain rfl : ok = false := by rw [← hok]; simp [texok, hr]
    have RI := Lib.hid (fun w' hb => right_any s v tw th zs false hr w' (hlater w' hb))
    clear hok hr hlater hv
    go_enter Try.func23, Try.ntmps23
    go_wp2_with (go_at_call 47; ((refine (RI.out _ (by (repeat' (first | (with_reducible exact Below.refl _ _) | (with_reducible refine bstep (by with_reducible assumption) ?_) | (with_reducible refine Below.alloc ?_ ?_ _) | (with_reducible refine Below.drew ?_) | (with_reducible refine below_drewN ?_ _) | (with_reducible refine Below.setCell ?_ ?_ _) | go_size)))).mono ?_); rintro e w1 ⟨rfl, hb1⟩))
    go_returns
    exact ⟨by simp [txv], by (repeat' (first | (with_reducible exact Below.refl _ _) | (with_reducible refine bstep (by with_reducible assumption) ?_) | (with_reducible refine Below.alloc ?_ ?_ _) | (with_reducible refine Below.drew ?_) | (with_reducible refine below_drewN ?_ _) | (with_reducible refine Below.setCell ?_ ?_ _) | go_size))⟩
  have RI := Lib.hid (fun w' hb => right_any s v tw th zs true hr w' (hlater w' hb))
  cases hp : inB x y z 65536
  · obtain rfl : ok = false := by rw [← hok]; simp [texok, hr, hp]
    have WI := Lib.hid (within_is hp)
    clear hok hr hlater hv hp
    go_enter Try.func23, Try.ntmps23
    go_wp2_with (first
      | (go_at_call 47; ((refine (RI.out _ (by (repeat' (first | (with_reducible exact Below.refl _ _) | (with_reducible refine bstep (by with_reducible assumption) ?_) | (with_reducible refine Below.alloc ?_ ?_ _) | (with_reducible refine Below.drew ?_) | (with_reducible refine below_drewN ?_ _) | (with_reducible refine Below.setCell ?_ ?_ _) | go_size)))).mono ?_); rintro e w1 ⟨rfl, hb1⟩; have P1 : ∀ o, w1.cell? ⟨w.heap.size + 1, o, none⟩ = (#[.int .i64 x, .int .i64 y, .int .i64 z] : Array Value)[o]? := blk_later (by simp) hb1 (by (repeat (first | (with_reducible assumption) | (focus ((with_reducible refine new_at ?_ _ _); (repeat (first | (with_reducible rfl) | (with_reducible refine sz1 ?_))); done)) | (with_reducible refine blk_alloc (by simp) _ ?_) | (with_reducible refine blk_drew ?_))))))
      | (go_at_call 18; ((with_reducible refine (WI.out _).mono ?_); rintro e w2 ⟨rfl, hb2⟩)))
    go_returns
    exact ⟨by simp [txv], by (repeat' (first | (with_reducible exact Below.refl _ _) | (with_reducible refine bstep (by with_reducible assumption) ?_) | (with_reducible refine Below.alloc ?_ ?_ _) | (with_reducible refine Below.drew ?_) | (with_reducible refine below_drewN ?_ _) | (with_reducible refine Below.setCell ?_ ?_ _) | go_size))⟩
  obtain rfl : ok = true := by rw [← hok]; simp [texok, hr, hp]
  have WI := Lib.hid (within_is hp)
  rw [inB_iff (by omega) (by omega)] at hp
  have hr' := hr
  simp only [rightB, Bool.and_eq_true, decide_eq_true_eq] at hr'
  obtain ⟨⟨⟨⟨⟨⟨r1, r2⟩, r3⟩, r4⟩, r5⟩, _⟩, _⟩ := hr'
  have ⟨s1, s2⟩ := stp_le (n := y + z) (m := th) (by omega)
  have ⟨s3, s4⟩ := stp_le (n := x) (m := tw) (by omega)
  have S1 := step_any (y + z) th _ rfl r3 r4
  have S2 := step_any x tw _ rfl r1 r2
  have q1 := Int.mul_le_mul_of_nonneg_right (show stp (y + z) th ≤ th - 1 by omega) (show 0 ≤ tw by omega)
  have q2 := Int.mul_nonneg s1 (show 0 ≤ tw by omega)
  rw [Int.sub_mul, Int.one_mul, Int.mul_comm th tw] at q1
  have ⟨p1, p2⟩ := mul_le (show 0 ≤ tw by omega) r2 (show 0 ≤ th by omega) r4
  obtain ⟨k, hk⟩ : ∃ k : Nat, stp (y + z) th * tw + stp x tw = (k : Int) := ⟨(stp (y + z) th * tw + stp x tw).toNat, by omega⟩
  have hkn : k < zs.length := by omega
  have ei : txv true tw th zs x y z = zs.getD k 0 := by unfold txv txi; rw [if_pos rfl, hk, Int.toNat_natCast]
  rw [ei]
  have hk0 : (0 : Int) ≤ (k : Int) := by omega
  rcases hv with ⟨rfl, _⟩ | ⟨bl, off, c, rfl, h0, hc, hm, hlt, hcell⟩
  · exact absurd hkn (by simp)
  have hk1 : (k : Int) < (zs.length : Int) := by omega
  have w0 : IntKind.i64.wrap (y + z) = y + z := IntWalk.i64_in _ (by omega)
  have w1 : IntKind.i64.wrap (stp (y + z) th * tw) = stp (y + z) th * tw := IntWalk.i64_in _ (by omega)
  obtain ⟨a1, ha1⟩ : ∃ p, stp (y + z) th = p := ⟨_, rfl⟩
  obtain ⟨a2, ha2⟩ : ∃ p, stp x tw = p := ⟨_, rfl⟩
  rw [ha1] at w1 hk S1 s1 s2 q1 q2
  rw [ha2] at hk S2 s3 s4
  obtain ⟨b1, hb1⟩ : ∃ p, a1 * tw = p := ⟨_, rfl⟩
  rw [hb1] at w1 hk q1 q2
  have w2 : IntKind.i64.wrap (b1 + a2) = (k : Int) := by rw [hk]; exact IntWalk.i64_in _ (by omega)
  obtain ⟨yz, hyz⟩ : ∃ p, y + z = p := ⟨_, rfl⟩
  rw [hyz] at S1 w0
  have S1 := Lib.hid S1
  have S2 := Lib.hid S2
  obtain ⟨val, hval⟩ : ∃ p, zs.getD k 0 = p := ⟨_, rfl⟩
  have E0 := hcell k hkn
  rw [hval] at E0 ⊢
  obtain ⟨n, hn⟩ : ∃ n, zs.length = n := ⟨_, rfl⟩
  rw [hn] at hk1 RI ⊢
  clear hok hr r1 r2 r3 r4 r5 s1 s2 s3 s4 q1 q2 p1 p2 hp hcell hlater ha1 ha2 hval ei hm hk hc
  go_enter Try.func23, Try.ntmps23
  go_wp2_with (first
    | (go_at_call 47; ((refine (RI.out _ (by (repeat' (first | (with_reducible exact Below.refl _ _) | (with_reducible refine bstep (by with_reducible assumption) ?_) | (with_reducible refine Below.alloc ?_ ?_ _) | (with_reducible refine Below.drew ?_) | (with_reducible refine below_drewN ?_ _) | (with_reducible refine Below.setCell ?_ ?_ _) | go_size)))).mono ?_); rintro e w1 ⟨rfl, hb1⟩; have T1 : ∀ o, w1.cell? ⟨w.heap.size, o, none⟩ = (#[s, .int .i64 tw, .int .i64 th, .slice (some ⟨bl, off, none⟩) n c] : Array Value)[o]? := blk_later (by simp) hb1 (by (repeat (first | (with_reducible assumption) | (focus ((with_reducible refine new_at ?_ _ _); (repeat (first | (with_reducible rfl) | (with_reducible refine sz1 ?_))); done)) | (with_reducible refine blk_alloc (by simp) _ ?_) | (with_reducible refine blk_drew ?_)))); have P1 : ∀ o, w1.cell? ⟨w.heap.size + 1, o, none⟩ = (#[.int .i64 x, .int .i64 y, .int .i64 z] : Array Value)[o]? := blk_later (by simp) hb1 (by (repeat (first | (with_reducible assumption) | (focus ((with_reducible refine new_at ?_ _ _); (repeat (first | (with_reducible rfl) | (with_reducible refine sz1 ?_))); done)) | (with_reducible refine blk_alloc (by simp) _ ?_) | (with_reducible refine blk_drew ?_)))); have E1 := cell_later hb1 (cell_alloc _ (cell_alloc _ E0))))
    | (go_at_call 18; ((with_reducible refine (WI.out _).mono ?_); rintro e w2 ⟨rfl, hb2⟩; have T2 := blk_later (by simp) hb2 T1; have P2 := blk_later (by simp) hb2 P1; have E2 := cell_later hb2 E1)))
  go_region_held3 (fun w' => (∀ o, w'.cell? ⟨w.heap.size, o, none⟩ = (#[s, .int .i64 tw, .int .i64 th, .slice (some ⟨bl, off, none⟩) n c] : Array Value)[o]?) ∧ (∀ o, w'.cell? ⟨w.heap.size + 1, o, none⟩ = (#[.int .i64 x, .int .i64 y, .int .i64 z] : Array Value)[o]?) ∧ w'.cell? ⟨bl, off + k, none⟩ = some (.int .i64 val))
    (((first | (go_split_ands; skip) | skip); (repeat' apply And.intro) <;> (first | assumption | (with_reducible exact blk_drew (by assumption)) | (with_reducible exact blk_later (by simp) (by assumption) (by assumption)) | (with_reducible exact cell_later (by assumption) (by assumption)))))
    (first
      | (go_at_call 48; ((with_reducible refine (S1.out _).mono ?_); rintro e v3 ⟨rfl, hb3⟩))
      | (go_at_call 48; ((with_reducible refine (S2.out _).mono ?_); rintro e v4 ⟨rfl, hb4⟩)))
  all_goals
    go_wp2_with fail
    go_returns
    exact ⟨by simp, by (repeat' (first | (with_reducible exact Below.refl _ _) | (with_reducible refine bstep (by with_reducible assumption) ?_) | (with_reducible refine Below.alloc ?_ ?_ _) | (with_reducible refine Below.drew ?_) | (with_reducible refine below_drewN ?_ _) | (with_reducible refine Below.setCell ?_ ?_ _) | go_size))⟩
end Go.Proofs.Ytdemcleibpgglaa
